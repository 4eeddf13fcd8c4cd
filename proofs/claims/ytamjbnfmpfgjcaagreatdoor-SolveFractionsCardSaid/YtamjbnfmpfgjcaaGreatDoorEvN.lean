/- The evaluator: conversions of strings; every loud operation does what the model does. -/
import Derived.Test.YtamjbnfmpfgjcaaGreatDoorEvM
namespace Go.Ev
variable {P : Program} {σ σ' : Sg} {A : AW} {w w' : World}

theorem u8D_eq {d : TypeDesc} (h : u8D d = true) : d = .int .u8 := by
  cases d <;> try (cases h; done)
  rename_i k; cases k <;> first | rfl | (cases h)
theorem strD_eq {d : TypeDesc} (h : strD d = true) : d = .string := by cases d <;> first | rfl | (cases h)
theorem VRL.zeros (n : Nat) : ∀ (l : List Value), l = List.replicate n (.int .u8 0) → VRL σ l l := by
  intro l h; subst h
  exact .refl_flats (by unfold flats; rw [lall_iff]; intro x hx; rw [List.eq_of_mem_replicate hx]; rfl)
theorem toBytes_run (hR : Rel P σ A w) {src dst e : TypeId} {x x' v : Value} {A' : AW} (hsd : P.underlying src = some .string) (hdd : P.underlying dst = some (.slice e)) (h : toBytes P A e x = some (v, A')) (hx : VR σ x x') :
    Gives P σ A w ((convert src dst x').run P w) v A' := by
  simp only [toBytes, ob_some, bt_some, beqIff, strV_some, fnat_eq, newSlice, Option.some.injEq, Prod.mk.injEq] at h
  obtain ⟨d, hd, hu, sz, hsz, rfl, s, rfl, rfl, rfl⟩ := h
  obtain rfl := u8D_eq hu
  obtain rfl := hx.of_flat rfl
  obtain ⟨i, hi, his⟩ := sizeA_some.1 hsz
  let cap := (Question.appendCap s.length 0 e).cut (w.tape w.drawn (.appendCap s.length 0 e))
  have hcap : s.length ≤ cap := Nat.le_add_right _ _
  let row : List Value := s.map byteOf' ++ List.replicate (cap - s.length) (.int .u8 0)
  have hrl : row.length = cap := by simp [row]; omega
  have hg := hR.new (o := .row (s.map byteOf') e (.grown s.length)) (d := cap - s.length) (x := .cells ⟨row⟩ e (cap, cap + 1))
    (w' := { w with drawn := w.drawn + 1, heap := w.heap.push (.cells ⟨row⟩ e (cap, cap + 1)) }) rfl
    ⟨.inr rfl, rowR_grown (cs := s.map byteOf') (x := List.replicate (cap - s.length) (.int .u8 0)) (.bytes _) hi (by rw [his]; show row.length = _; rw [hrl]; omega) (by intro o ho hh; have : row.length = cap := hrl; simp only [row] at this; omega)⟩ rfl rfl rfl
  refine ⟨.slice (some ⟨w.heap.size, 0, none⟩) s.length cap, _, _, ?_, ?_, hg.1, hg.2⟩
  · have hch : (choose (.appendCap s.length 0 e)).run P w = .ok cap { w with drawn := w.drawn + 1 } := by simp [choose, Sem.run, Question.forced, cap]
    have hss : (⟨⟨s⟩⟩ : ByteArray).size = s.length := rfl
    simp only [convert, Sem.run_bind, run_under hsd, run_under hdd, Result.andThen_ok, mkStr, run_under hd, Conv.stringToBytes, hss, hch, run_newRow, Sem.run_pure]
    have hrow : ((⟨⟨s⟩⟩ : ByteArray).data.map (fun b => Value.int .u8 b.toNat) ++ Array.replicate (cap - s.length) (Value.int .u8 0)) = ⟨row⟩ := by
      apply Array.toList_inj.1
      simp [row, byteOf']
    simp only [hrow]
    simp [markStringish, shape, freeze, Sem.run, World.shape?, World.freeze, hrl]
    apply Array.ext_getElem?
    intro q
    rw [Array.getElem?_modify]
    by_cases hq : w.heap.size = q
    · subst hq; simp
    · simp [hq, Array.getElem?_push, Ne.symm hq]
  · have := VR.slice (σ := ext σ A.next (w.heap.size, cap - s.length)) (i := A.next) (o := 0) (l := s.length) (c := s.length) (ext_self _ _)
    rw [show s.length + (cap - s.length) = cap by omega] at this
    exact this
theorem pushBytes_run (f : Value → ByteArray → Sem (ForInStep ByteArray)) (hf : ∀ (n : Nat) s, f (.int .u8 (.ofNat n)) s = pure (.yield (s.push (UInt8.ofNat n)))) : ∀ (l : List Value) (bs : List UInt8) (acc : ByteArray) (w : World), omap byteV l = some bs →
    (forIn l acc f).run P w = .ok ⟨acc.data ++ bs.toArray⟩ w := by
  intro l
  induction l with
  | nil => intro bs acc w h; rw [omap_nil] at h; subst h; simp
  | cons x l ih =>
    intro bs acc w h
    obtain ⟨y, ys, hy, hys, rfl⟩ := omap_cons.1 h
    obtain ⟨n, rfl, rfl⟩ := byteV_some.1 hy
    rw [List.forIn_cons, hf]
    have := ih ys (acc.push (UInt8.ofNat n)) w hys
    simp only [Sem.run_bind, Sem.run_pure, Result.andThen_ok]
    rw [this]
    congr 1
    apply ByteArray.ext
    simp [ByteArray.push]
theorem toStr_run (hR : Rel P σ A w) {src dst e : TypeId} {x x' v : Value} {A' : AW} (hsd : P.underlying src = some (.slice e)) (hdd : P.underlying dst = some .string) (h : toStr P A e x = some (v, A')) (hx : VR σ x x') :
    Gives P σ A w ((convert src dst x').run P w) v A' := by
  simp only [toStr, ob_some, bt_some] at h
  obtain ⟨d, hd, hu, h⟩ := h
  obtain rfl := u8D_eq hu
  cases x with
  | slice a len cap =>
    simp only [ob_some, Option.some.injEq, Prod.mk.injEq] at h
    obtain ⟨l, hl, bs, hbs, rfl, rfl⟩ := h
    obtain ⟨l', hll, hsrc⟩ := srcA_run hR hl hx
    have hsame := hll.of_flats (bytes_flats hbs)
    subst hsame
    refine ⟨mkStr bs, σ, w, ?_, .flat rfl, hR, .refl hR.lim⟩
    have hx' : ∃ a' cap', x' = .slice a' len cap' := by cases hx with
      | flat e => exact ⟨_, _, rfl⟩
      | slice e => exact ⟨_, _, rfl⟩
    obtain ⟨a', cap', rfl⟩ := hx'
    simp only [convert, Sem.run_bind, run_under hsd, run_under hdd, Result.andThen_ok, run_under hd, Conv.bytesToString]
    have hs2 := hsrc w rfl
    cases a' with
    | none =>
      have : (pure #[] : Sem (Array Value)).run P w = .ok ⟨l'⟩ w := hs2
      have hl0 : l' = [] := by
        simp only [Sem.run_pure, Result.ok.injEq] at this
        have := congrArg Array.toList this.1
        simpa using this.symm
      subst hl0
      rw [omap_nil] at hbs; subst hbs
      rfl
    | some a' =>
      have hs2 : (loadCells a' (len * 1)).run P w = .ok ⟨l'⟩ w := hs2
      rw [Nat.mul_one] at hs2
      simp only [Sem.run_bind, hs2, Result.andThen_ok]
      rw [← Array.forIn_toList, pushBytes_run _ (fun _ _ => rfl) l' bs .empty w hbs]
      simp only [Result.andThen_ok, Sem.run_pure]
      congr 2
      apply ByteArray.ext
      simp
  | _ => cases h
theorem convA_run (hR : Rel P σ A w) {src dst : TypeId} {x x' v : Value} {A' : AW} (h : convA P src dst A x = some (v, A')) (hx : VR σ x x') : Gives P σ A w ((convert src dst x').run P w) v A' := by
  simp only [convA, ob_some] at h
  obtain ⟨sd, hsd, dd, hdd, h⟩ := h
  split at h
  · simp only [bt_some] at h
    obtain ⟨hs, h⟩ := h
    obtain rfl := strD_eq hs
    exact toBytes_run hR hsd hdd h hx
  · split at h
    · exact toStr_run hR hsd hdd h hx
    · simp only [ob_some, strV_some, Option.some.injEq, Prod.mk.injEq] at h
      obtain ⟨s, rfl, rfl, rfl⟩ := h
      obtain rfl := hx.of_flat rfl
      refine ⟨_, σ, w, ?_, .flat rfl, hR, .refl hR.lim⟩
      simp only [convert, Sem.run_bind, run_under hsd, run_under hdd, Result.andThen_ok, mkStr]
      rfl
    · cases h
  · cases h
theorem evE_sound (hR : Rel P σ A w) {o : Oper} {a : Act} {F : T Value} {f : Fx} (hO : OK P σ F a o.op.operands.toList) (h : evE o.op P F A = some f) : Fine P σ A w ((execOp a.eval o).run P w) f := by
  obtain ⟨dst, op, ty, pos, after, guard⟩ := o
  cases op <;> simp only [evE] at h <;> try (cases h; done)
  case alloc e =>
    simp only [eAlloc, newPtr, ob_some, Option.some.injEq] at h
    obtain ⟨z, hz, rfl⟩ := h
    exact (alloc_run hR hz).fine
  case box e x =>
    simp only [eBox, newPtr, ob_some, Option.some.injEq] at h
    obtain ⟨v, hv, rfl⟩ := h
    exact (box_run hR (hO x (by simp [Op.operands]) v hv)).fine
  case buildSlice t n ps =>
    simp only [eBuildSlice, ob_some, fxv_some] at h
    obtain ⟨vs, hvs, v, A', h, rfl⟩ := h
    obtain ⟨ps⟩ := ps
    have hp := parts_run (a := a) (fun x hx => hO x (by simpa [Op.operands] using hx)) hvs
    have := (buildSlice_run hR h hp).fine
    simpa only [execOp, map_pairs] using this
  case store t x y =>
    simp only [eStore, ob_some, fxu_some] at h
    obtain ⟨p, hp, v, hv, A', h, rfl⟩ := h
    exact (store_run hR h (hO x (by simp [Op.operands]) p hp) (hO y (by simp [Op.operands]) v hv)).fine
  case insert t m k v =>
    simp only [eUpdate, ob_some, fxu_some] at h
    obtain ⟨m', hm, k', hk, v', hv, A', h, rfl⟩ := h
    exact (mapUpdate_run hR h (hO m (by simp [Op.operands]) _ hm) (hO k (by simp [Op.operands]) _ hk) (hO v (by simp [Op.operands]) _ hv)).fine
  case mapUpdate t m k v =>
    simp only [eUpdate, ob_some, fxu_some] at h
    obtain ⟨m', hm, k', hk, v', hv, A', h, rfl⟩ := h
    exact (mapUpdate_run hR h (hO m (by simp [Op.operands]) _ hm) (hO k (by simp [Op.operands]) _ hk) (hO v (by simp [Op.operands]) _ hv)).fine
  case makeMap t r =>
    cases r with
    | none =>
      have h : some (Fx.val (.map (some A.next)) (A.add (.map [] 0))) = some f := h
      cases h
      exact (makeMap_run hR (t := t) (r := none) (fun v hv => by cases hv)).fine
    | some x =>
      have h : (ob (mapT P t) fun _ => ob (opnd P F x) fun v => ob (numV v) fun _ => some (Fx.val (.map (some A.next)) (A.add (.map [] 0)))) = some f := h
      simp only [ob_some, mapT_some, numV_some, Option.some.injEq] at h
      obtain ⟨q, hq, v, hv, n, ⟨k, rfl⟩, rfl⟩ := h
      have hx := (hO x (by simp [Op.operands]) _ hv).of_flat rfl
      have := (makeMap_run hR (t := t) (r := some (.int k (.ofNat n))) (fun v hv => by cases hv; exact ⟨⟨k, n, rfl⟩, q, hq⟩)).fine
      simpa only [execOp, Option.map, hx] using this
  case makeSlice t l c =>
    simp only [eMakeSlice, ob_some, fxv_some] at h
    obtain ⟨l', hl, c', hc, v, A', h, rfl⟩ := h
    exact (makeSlice_run hR h (hO l (by simp [Op.operands]) _ hl) (hO c (by simp [Op.operands]) _ hc)).fine
  case convert s d x =>
    simp only [eConv, ob_some, fxv_some] at h
    obtain ⟨u, hu, v, A', h, rfl⟩ := h
    exact (convA_run hR h (hO x (by simp [Op.operands]) _ hu)).fine
  case defer c =>
    obtain ⟨cal, ⟨args⟩, ats⟩ := c
    cases cal with
    | value g =>
      have h : (ob (opnds P F args) fun args => ob (opnd P F g) fun v => match v with
        | .func fn first cap => some (Fx.defr { target := .fn fn cap, args := ⟨first.toList ++ args⟩ } A)
        | _ => none) = some f := h
      simp only [ob_some] at h
      obtain ⟨vs, hvs, u, hu, h⟩ := h
      have hargs := opnds_run (a := a) (fun x hx => hO x (by simp [Op.operands, Call.operands]; exact .inr hx)) hvs
      have hf := hO g (by simp [Op.operands, Call.operands]) u hu
      split at h
      · rename_i fn first cap
        cases h
        obtain ⟨first⟩ := first
        obtain ⟨cap⟩ := cap
        cases hE : a.eval g <;> rw [hE] at hf <;> cases hf
        · rename_i e1; simp [flat] at e1
        · rename_i f' c' hff hcc
          refine ⟨rfl, fn, cap, c', first ++ vs, f' ++ args.map a.eval, rfl, hcc, hff.append hargs, ?_⟩
          simp only [execOp, resolve, hE, Deferred.ofValue, Sem.run_bind, Sem.run_pure, Result.andThen_ok, map_ops]
          simp
      · cases h
    | _ => cases h
  case call c =>
    obtain ⟨cal, ⟨args⟩, ats⟩ := c
    cases cal with
    | value g =>
      have h : (ob (opnds P F args) fun args => ob (opnd P F g) fun v => match v with
        | .func (.func f) first cap => some (Fx.enter f ((first.toList ++ args) ++ cap.toList) A)
        | _ => none) = some f := h
      simp only [ob_some] at h
      obtain ⟨vs, hvs, u, hu, h⟩ := h
      have hargs := opnds_run (a := a) (fun x hx => hO x (by simp [Op.operands, Call.operands]; exact .inr hx)) hvs
      have hf := hO g (by simp [Op.operands, Call.operands]) u hu
      split at h
      · rename_i fn first cap
        cases h
        obtain ⟨first⟩ := first
        obtain ⟨cap⟩ := cap
        cases hE : a.eval g <;> rw [hE] at hf <;> cases hf
        · rename_i e1; simp [flat] at e1
        · rename_i f' c' hff hcc
          refine ⟨rfl, (f' ++ args.map a.eval) ++ c', (hff.append hargs).append hcc, ?_⟩
          simp only [execOp, resolve, hE, Deferred.ofValue, Sem.run_bind, Sem.run_pure, Result.andThen_ok, map_ops, invoke]
          simp
      · cases h
    | invoke r m => cases h
    | builtin b =>
      have two : ∀ (g : Program → TypeId → Option TypeId → AW → Value → Value → Option Fx), eTwo g ⟨.builtin b, ⟨args⟩, ats⟩ P F A = some f → ∃ x y t u v, args = [x, y] ∧ ats[0]? = some t ∧ VR σ u (a.eval x) ∧ VR σ v (a.eval y) ∧ g P t ats[1]? A u v = some f := by
        intro g hq
        unfold eTwo at hq
        split at hq
        · rename_i x y hxy
          simp only at hxy
          simp only [ob_some, lget_eq] at hq
          obtain ⟨t, ht, u, hu, v, hv, hq⟩ := hq
          subst hxy
          refine ⟨x, y, t, u, v, rfl, by rw [← Array.getElem?_toList]; exact ht, hO x (by simp [Op.operands, Call.operands]) u hu, hO y (by simp [Op.operands, Call.operands]) v hv, by rw [← Array.getElem?_toList]; exact hq⟩
        · cases hq
      have key : ∀ (s : Sem Value) v A', f = .val v A' → (∀ cs, builtin b ats ty cs ⟨args.map a.eval⟩ = (do pure (.value (← s)))) → Gives P σ A w (s.run P w) v A' →
          Fine P σ A w ((execOp a.eval ⟨dst, .call ⟨.builtin b, ⟨args⟩, ats⟩, ty, pos, after, guard⟩).run P w) f := by
        intro s v A' hf he hg
        subst hf
        have := hg.fine
        simp only [execOp, resolve, Sem.run_bind, Sem.run_pure, Result.andThen_ok, invoke]
        rw [map_ops, he]
        exact this
      cases b <;> simp only [eCall, eBuiltin] at h <;> try (cases h; done)
      case append =>
        obtain ⟨x, y, t, u, v, rfl, ht, hx, hy, hq⟩ := two _ h
        simp only [gAppend, fxv_some] at hq
        obtain ⟨r, A', hq, rfl⟩ := hq
        exact key _ _ _ rfl (fun _ => rfl) (append_run hR ht rfl hq hx hy)
      case copy =>
        obtain ⟨x, y, t, u, v, rfl, ht, hx, hy, hq⟩ := two _ h
        simp only [gCopy, fxv_some] at hq
        obtain ⟨r, A', hq, rfl⟩ := hq
        exact key _ _ _ rfl (fun _ => rfl) (copy_run hR ht hq hx hy)
      case delete =>
        obtain ⟨x, y, t, u, v, rfl, ht, hx, hy, hq⟩ := two _ h
        simp only [gDelete, fxu_some] at hq
        obtain ⟨A', hq, rfl⟩ := hq
        obtain ⟨⟨⟩⟩ := ats
        · simp at ht
        · rename_i t0 ts
          have : t0 = t := by simpa using ht
          subst this
          exact key _ _ _ rfl (fun _ => rfl) (delete_run hR hq hx hy)
      case unsafeString =>
        obtain ⟨x, y, t, u, v, rfl, ht, hx, hy, hq⟩ := two _ h
        simp only [gString, fxv_some] at hq
        obtain ⟨r, A', hq, rfl⟩ := hq
        exact key _ _ _ rfl (fun _ => rfl) (unsafeString_run hR ht hq hx hy)
end Go.Ev
