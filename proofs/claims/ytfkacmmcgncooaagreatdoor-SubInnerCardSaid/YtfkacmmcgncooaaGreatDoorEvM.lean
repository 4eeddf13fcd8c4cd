/- The evaluator: append and copy. -/
import Derived.Test.YtfkacmmcgncooaaGreatDoorEvK
import Derived.Lib.UnsafeStr
section
set_option linter.unusedSectionVars false
namespace Go.Ev
variable {P : Program} {σ σ' : Sg} {A : AW} {w w' : World} [Frozen P]
theorem loadCells_at {w : World} {b o n : Nat} {c' : Array Value} {e : TypeId} {fz : Nat × Nat} (hw : w.heap[b]? = some (.cells c' e fz)) (h : o + n ≤ c'.size) :
    (loadCells ⟨b, o, none⟩ n).run P w = .ok ⟨(c'.toList.drop o).take n⟩ w := by
  have hll : ((c'.toList.drop o).take n).length = n := by simp; omega
  have hload := run_loadCells_list (P := P) (w := w) ⟨b, o, none⟩ ((c'.toList.drop o).take n) (fun j v hj => by
    rw [add_plain]
    refine cell_of hw ?_
    have hjl : j < n := by
      rcases Nat.lt_or_ge j n with h' | h'
      · exact h'
      · rw [List.getElem?_eq_none (by omega)] at hj; cases hj
    rw [List.getElem?_take, if_pos hjl, List.getElem?_drop, Array.getElem?_toList] at hj
    exact hj)
  rw [hll] at hload
  exact hload
theorem VRL.bytes (l : List UInt8) : VRL σ (l.map byteOf') (l.map byteOf') := by
  induction l with
  | nil => exact .nil
  | cons a l ih => exact .cons (.flat rfl) ih
theorem srcA_slice {H : T AO} {size n j o len cap : Nat} : srcA H size n (.slice (some ⟨j, o, none⟩) len cap) = rowAt H j fun c _ _ => lsub c o (Nat.mul n size) := rfl
theorem noUNK' : ¬ Nat.blt UNK SYM = true := by simp [Nat.blt_eq, SYM, UNK]
theorem srcA_emp {H : T AO} {size n : Nat} {t : TypeId} {y : Value} {xs : List Value} (h : srcA H size n (.iface t y) = some xs) : t = UNK ∧ y = .slice none 0 0 ∧ n = 0 ∧ xs = [] := by
  unfold srcA at h
  split at h <;> rename_i hq <;> first | (cases h; done) | (cases hq; done) | skip
  cases hq
  rw [bt_some, bt_some, beqIff, beqIff] at h
  obtain ⟨rfl, rfl, h⟩ := h
  cases h
  exact ⟨rfl, rfl, rfl, rfl⟩
theorem lenV_emp {t : TypeId} {y : Value} {m : Nat} (h : lenV (.iface t y) = some m) : t = UNK ∧ y = .slice none 0 0 ∧ m = 0 := by
  unfold lenV at h
  split at h <;> rename_i hq <;> first | (cases h; done) | (cases hq; done) | skip
  cases hq
  rw [bt_some, beqIff] at h
  obtain ⟨rfl, h⟩ := h
  cases h
  exact ⟨rfl, rfl, rfl⟩
theorem srcA_run (hR : Rel P σ A w) {size n : Nat} {x x' : Value} {xs : List Value} (h : srcA A.heap size n x = some xs) (hx : VR σ x x') :
    ∃ xs', VRL σ xs xs' ∧ ∀ w2 : World, w2.heap = w.heap → (Builtin.firstCells size n x').run P w2 = .ok ⟨xs'⟩ w2 := by
  cases x with
  | slice a l c =>
    cases a with
    | none =>
      have h : some [] = some xs := h
      cases h
      have hx' : x' = .slice none l c := by cases hx with | flat e => rfl
      subst hx'
      exact ⟨[], .nil, fun w2 _ => rfl⟩
    | some a =>
      have h : (plainAt a fun b o => rowAt A.heap b fun c _ _ => lsub c o (Nat.mul n size)) = some xs := h
      simp only [plainAt_some, rowAt_some] at h
      obtain ⟨ha, cc, e, m, hg, hl⟩ := h
      rw [ha] at hx
      obtain ⟨b, d, hs, rfl⟩ := hx.slice_inv
      obtain ⟨c', e', fz, hw, hr, _⟩ := hR.rowA hs hg
      obtain ⟨rfl, hle⟩ := lsub_some hl
      have hle : a.off + n * size ≤ cc.length := hle
      obtain ⟨cs, y, ec, hc, _⟩ := hr.cells
      have hlen := hc.length
      have hsz : c'.size = cs.length + y.length := by have := congrArg List.length ec; simpa using this
      refine ⟨(cs.drop a.off).take (n * size), (hc.drop _).take _, fun w2 hw2 => ?_⟩
      have := loadCells_at (P := P) (w := w2) (b := b) (o := a.off) (n := n * size) (c' := c') (e := e') (fz := fz) (by rw [hw2]; exact hw) (by omega)
      rw [ec, List.drop_append_of_le_length (by omega), List.take_append_of_le_length (by simp; omega)] at this
      exact this
  | string s =>
    have h : bt (Nat.beq size 1) (ob (ltake n s.data.toList) fun l => some (l.map byteOf')) = some xs := h
    simp only [bt_some, ob_some, Option.some.injEq] at h
    obtain ⟨_, l, hl, rfl⟩ := h
    obtain ⟨rfl, hle⟩ := ltake_some _ _ _ hl
    have hx' := hx.of_flat rfl
    subst hx'
    refine ⟨_, .bytes _, fun w2 _ => ?_⟩
    obtain ⟨⟨s⟩⟩ := s
    simp only [Builtin.firstCells, Sem.run_pure]
    congr 1
    apply Array.toList_inj.1
    rw [Array.toList_map, ByteArray.data_extract, Array.toList_extract, List.extract_eq_take_drop]
    simp
    rfl
  | iface t y =>
    obtain ⟨ht, hy, hn, hq⟩ := srcA_emp h
    subst ht hy hn hq
    cases hx with
    | flat e => cases e
    | iface hlt _ => exact absurd hlt noUNK'
    | emp _ =>
      rename_i a0 c0 _
      refine ⟨[], .nil, fun w2 _ => ?_⟩
      cases a0 with
      | none => rfl
      | some a0 => show (loadCells a0 (0 * size)).run P w2 = _; rw [Nat.zero_mul]; rfl
  | _ => cases h
theorem lenV_run {x x' : Value} {m : Nat} (h : lenV x = some m) (hx : VR σ x x') (w : World) : (Builtin.lenOf x').run P w = .ok m w := by
  cases x with
  | slice a l c =>
    cases h
    cases hx with
    | flat e => rfl
    | slice e => rfl
  | string s =>
    have h : fnat s.data.toList.length some = some m := h
    rw [fnat_eq] at h; cases h
    have hx' := hx.of_flat rfl
    subst hx'
    rfl
  | iface t y =>
    obtain ⟨ht, hy, rfl⟩ := lenV_emp h
    subst ht hy
    cases hx with
    | flat e => cases e
    | iface hlt _ => exact absurd hlt noUNK'
    | emp _ => rfl
  | _ => cases h
theorem grow_le (need : Nat) : ∀ (r c : Nat), c ≤ 2 * need + 1000 → Builtin.growBy need r c ≤ 2 * need + 1000 := by
  intro r
  induction r with
  | zero => intro c h; exact h
  | succ r ih =>
    intro c h
    unfold Builtin.growBy
    split
    · exact h
    · exact ih _ (by omega)
theorem next_le {need cap by_ : Nat} (h : few need by_ = true) (hc : ¬ need ≤ cap) : ¬ Builtin.nextslicecap need cap * by_ > 2 ^ 48 := by
  have h : need * (by_ + 1) ≤ 1073741824 := bleIff.1 h
  have hn : Builtin.nextslicecap need cap ≤ 2 * need + 1000 := by
    unfold Builtin.nextslicecap
    split
    · omega
    · split
      · omega
      · exact grow_le _ _ _ (by omega)
  have h1 : by_ + 1 ≤ need * (by_ + 1) := Nat.le_mul_of_pos_left _ (by omega)
  have h2 : Builtin.nextslicecap need cap * by_ ≤ (2 * need + 1000) * by_ := Nat.mul_le_mul_right _ hn
  have h3 : (2 * need + 1000) * by_ = 2 * (need * by_) + 1000 * by_ := by rw [Nat.add_mul, Nat.mul_assoc]
  have h4 : need * (by_ + 1) = need * by_ + need := by rw [Nat.mul_add, Nat.mul_one]
  omega
section
variable {t xt ty e : TypeId} {xd : TypeDesc} {i : TypeInfo} {z x' : Value} {ts : Array TypeId} {base : Option Addr} {len cap m : Nat} {xs' old' : List Value}
theorem append_room (h0 : ts[0]? = some t) (h1 : ts[1]? = some xt) (ht : P.underlying t = some (.slice e)) (hi : P.info? e = some i) (hxt : P.underlying xt = some xd) (hni : notInt xd = true)
    (hlen : (Builtin.lenOf x').run P w = .ok m w) (hsrc : (Builtin.firstCells i.size m x').run P w = .ok ⟨xs'⟩ w) (hle : len + m ≤ cap) :
    (Builtin.append_ ts ty #[.slice base len cap, x']).run P w = ((match base with | some a => storeCells (a.add (len * i.size)) xs' | none => pure ()) >>= fun _ => (pure (.slice base (len + m) cap) : Sem Value)).run P w := by
  have hsz : (sizeOf e).run P w = .ok i.size w := run_size (sizeA_some.2 ⟨i, hi, rfl⟩) w
  have ha0 : (#[Value.slice base len cap, x'] : Array Value)[0]? = some (.slice base len cap) := rfl
  have ha1 : (#[Value.slice base len cap, x'] : Array Value)[1]? = some x' := rfl
  have hd : ∀ w, (do pure ((← underlying xt) matches .int _) : Sem Bool).run P w = .ok false w := by
    intro w
    simp only [Sem.run_bind, run_under hxt, Result.andThen_ok]
    cases xd <;> first | rfl | (cases hni)
  unfold Builtin.append_
  simp only [h0, h1, ha0, ha1, Sem.run_bind, run_under ht, Result.andThen_ok, hsz, run_under hxt]
  cases xd <;> first | (cases hni; done) | (simp only [Bool.false_eq_true, if_false, hlen, if_pos hle, Bool.not_false, if_true, hsrc, Sem.run_pure, Sem.run_bind, Result.andThen_ok]; cases base <;> simp only [Sem.run_bind, Sem.run_pure, Result.andThen_ok])
theorem append_grow (h0 : ts[0]? = some t) (h1 : ts[1]? = some xt) (ht : P.underlying t = some (.slice e)) (hi : P.info? e = some i) (hz : i.zero = some z) (hxt : P.underlying xt = some xd) (hni : notInt xd = true)
    (hlen : (Builtin.lenOf x').run P w = .ok m w) (hsrc : ∀ w2 : World, w2.heap = w.heap → (Builtin.firstCells i.size m x').run P w2 = .ok ⟨xs'⟩ w2)
    (hold : ∀ w2 : World, w2.heap = w.heap → (Builtin.firstCells i.size len (.slice base len cap)).run P w2 = .ok ⟨old'⟩ w2) (hle : ¬ len + m ≤ cap) (hf : few (len + m) i.bytes = true) :
    ∃ nc, len + m ≤ nc ∧ (Builtin.append_ ts ty #[.slice base len cap, x']).run P w =
      .ok (.slice (some ⟨w.heap.size, 0, none⟩) (len + m) nc) { w with drawn := w.drawn + 1, heap := w.heap.push (.cells ⟨old' ++ xs' ++ lrep (nc - (len + m)) z.cells.toList⟩ e) } := by
  have hsz : (sizeOf e).run P w = .ok i.size w := run_size (sizeA_some.2 ⟨i, hi, rfl⟩) w
  have ha0 : (#[Value.slice base len cap, x'] : Array Value)[0]? = some (.slice base len cap) := rfl
  have ha1 : (#[Value.slice base len cap, x'] : Array Value)[1]? = some x' := rfl
  have hcap := next_le hf hle
  have hmax : ¬ (((len + m : Nat) : Int) > IntKind.i64.max) := by
    have := (few_le hf).1
    show ¬ (((len + m : Nat) : Int) > 9223372036854775807)
    omega
  have hzero : ∀ w2 : World, (zeroValue e).run P w2 = .ok z w2 := fun w2 => by simp [zeroValue, run_info hi, hz]
  have hzc : ∀ n, Builtin.zeroCells z.cells n = ⟨lrep n z.cells.toList⟩ := fun n => by
    have := range_lrep z.cells.toList n
    simpa [Builtin.zeroCells] using this
  refine ⟨(Question.appendCap (len + m) cap e).cut (w.tape w.drawn (.appendCap (len + m) cap e)), Nat.le_add_right _ _, ?_⟩
  have hch : (choose (.appendCap (len + m) cap e)).run P w = .ok ((Question.appendCap (len + m) cap e).cut (w.tape w.drawn (.appendCap (len + m) cap e))) { w with drawn := w.drawn + 1 } := by
    simp [choose, Sem.run, Question.forced]
  unfold Builtin.append_
  simp only [h0, h1, ha0, ha1, Sem.run_bind, run_under ht, Result.andThen_ok, hsz, run_under hxt]
  cases xd <;> first | (cases hni; done) | (simp only [Bool.false_eq_true, if_false, hlen, if_neg hle, Bool.not_false, if_true, run_info hi, hmax, false_and, hcap, Sem.run_pure, Sem.run_bind, Result.andThen_ok,
    hch, run_askRoom, hsrc { w with drawn := w.drawn + 1 } rfl, hold { w with drawn := w.drawn + 1 } rfl, hzero, hzc, run_newRow]; simp)
end
theorem ltake_all {α : Type} : ∀ (l : List α) (n : Nat), l.length = n → ltake n l = some l := by
  intro l
  induction l with
  | nil => intro n h; cases h; rfl
  | cons x l ih => intro n h; cases h; show ocons x (ltake l.length l) = _; rw [ih _ rfl]; rfl
section
variable {t xt ty e e' : TypeId} {xd : TypeDesc} {i : TypeInfo} {z x' v : Value} {ts : Array TypeId} {j b o d len cap m : Nat} {c xs xs' : List Value} {md : Md} {A' : AW}
theorem appOwn_run (hR : Rel P σ A w) (h0 : ts[0]? = some t) (h1 : ts[1]? = some xt) (ht : P.underlying t = some (.slice e)) (hi : P.info? e = some i) (hz : i.zero = some z) (hzl : z.cells.toList.length = i.size) (hxt : P.underlying xt = some xd) (hni : notInt xd = true)
    (hlen : (Builtin.lenOf x').run P w = .ok m w) (hsrc : ∀ w2 : World, w2.heap = w.heap → (Builtin.firstCells i.size m x').run P w2 = .ok ⟨xs'⟩ w2) (hxx : VRL σ xs xs') (hxl : xs.length = m * i.size)
    (hsg : σ j = some (b, d)) (hg : A.heap.get j = some (.row c e' md)) (hmd : md.roomy = false) (h : appOwn A e i.size i.bytes j o len cap c e' md m xs = some (v, A')) :
    Gives P σ A w ((Builtin.append_ ts ty #[.slice (some ⟨b, o, none⟩) len (cap + d), x']).run P w) v A' := by
  obtain ⟨_, _, _, _, hr0, _⟩ := hR.rowA hsg hg
  obtain rfl : d = 0 := hr0.exact_ hmd
  have hxl' : xs'.length = m * i.size := by rw [hxx.length]; exact hxl
  unfold appOwn at h
  cases hb : Nat.ble (Nat.add len m) cap with
  | true =>
    rw [hb] at h
    have hle : len + m ≤ cap := bleIff.1 hb
    simp only [bt_some, ob_some, fnat_eq, Option.some.injEq, Prod.mk.injEq] at h
    obtain ⟨hwr, h1c, c2, hc2, rfl, rfl⟩ := h
    obtain ⟨c', fz, hw, hr⟩ := hR.row hsg hg hwr
    rw [append_room h0 h1 ht hi hxt hni hlen (hsrc w rfl) (by simpa using hle)]
    have hc2 : lover xs (o + len * i.size) c = some c2 := hc2
    obtain ⟨hfit, hr2⟩ := hr.over hxx hc2
    obtain ⟨w', hst, q1, q2, q3, q4, q5, q6⟩ := cellsStored (P := P) (o := o + len * i.size) xs' 0 c' w hw (by simpa using hfit) (hxx.oneCells h1c) (hr.free hwr)
    simp only [Nat.add_zero] at q1
    obtain ⟨r1, r2⟩ := hR.upd (o2 := .row c2 e' md) hsg hg hwr q1 ⟨.inr rfl, hr2⟩ q2 q3 q4 q5 q6
    refine ⟨_, σ, w', ?_, .slice hsg, r1, r2⟩
    simp only [add_plain, Sem.run_bind, hst, Result.andThen_ok, Sem.run_pure]
    rfl
  | false =>
    rw [hb] at h
    have hle : ¬ len + m ≤ cap := fun hh => by rw [show Nat.ble (Nat.add len m) cap = true from bleIff.2 hh] at hb; cases hb
    simp only [bt_some, ob_some, fnat_eq, newSlice, Option.some.injEq, Prod.mk.injEq] at h
    obtain ⟨hf, old, hold, rfl, rfl⟩ := h
    have hs : VR σ (.slice (some ⟨j, o, none⟩) len cap) (.slice (some ⟨b, o, none⟩) len (cap + 0)) := .slice hsg
    obtain ⟨old', hoo, hold'⟩ := srcA_run (n := len) (size := i.size) hR (xs := old) (by
      rw [srcA_slice, rowAt_some]
      exact ⟨c, e', md, hg, hold⟩) hs
    obtain ⟨nc, hnc, hrun⟩ := append_grow (P := P) (w := w) (ty := ty) h0 h1 ht hi hz hxt hni hlen hsrc hold' (by simpa using hle) hf
    have hol : old'.length = len * i.size := by
      rw [hoo.length]
      obtain ⟨rfl, hle2⟩ := lsub_some hold
      have hle2 : o + len * i.size ≤ c.length := hle2
      show ((c.drop o).take (len * i.size)).length = _
      simp; omega
    have hgg := hR.new (o := .row (old ++ xs) e (.grown (len + m))) (d := nc - (len + m)) (x := .cells ⟨old' ++ xs' ++ lrep (nc - (len + m)) z.cells.toList⟩ e)
      (w' := { w with drawn := w.drawn + 1, heap := w.heap.push (.cells ⟨old' ++ xs' ++ lrep (nc - (len + m)) z.cells.toList⟩ e) }) rfl
      ⟨.inr rfl, rowR_grown (cs := old' ++ xs') (hoo.append hxx) hi (by rw [List.length_append, List.length_append, length_lrep, hxl', hzl, hol, ← Nat.add_mul, ← Nat.add_mul]) (unfrozen_zero _)⟩ rfl rfl rfl
    refine ⟨_, _, _, hrun, ?_, hgg.1, hgg.2⟩
    have := VR.slice (σ := ext σ A.next (w.heap.size, nc - (len + m))) (i := A.next) (o := 0) (l := len + m) (c := len + m) (ext_self _ _)
    rw [show len + m + (nc - (len + m)) = nc by omega] at this
    exact this
theorem appGrown_run (hR : Rel P σ A w) (h0 : ts[0]? = some t) (h1 : ts[1]? = some xt) (ht : P.underlying t = some (.slice e)) (hi : P.info? e = some i) (hz : i.zero = some z) (hzl : z.cells.toList.length = i.size) (hxt : P.underlying xt = some xd) (hni : notInt xd = true)
    (hlen : (Builtin.lenOf x').run P w = .ok m w) (hsrc : ∀ w2 : World, w2.heap = w.heap → (Builtin.firstCells i.size m x').run P w2 = .ok ⟨xs'⟩ w2) (hxx : VRL σ xs xs') (hxl : xs.length = m * i.size) {rc : Nat}
    (hsg : σ j = some (b, d)) (hg : A.heap.get j = some (.row c e' (.grown rc))) (h : appGrown A e i.size i.bytes j o len cap c e' rc m xs = some (v, A')) :
    Gives P σ A w ((Builtin.append_ ts ty #[.slice (some ⟨b, o, none⟩) len (cap + d), x']).run P w) v A' := by
  obtain ⟨c', fz, hw, hr⟩ := hR.row hsg hg rfl
  have hxl' : xs'.length = m * i.size := by rw [hxx.length]; exact hxl
  simp only [appGrown, bt_some, beqIff, lenB_iff, Bool.and_eq_true, bleIff] at h
  obtain ⟨rfl, rfl, hcl, ⟨rfl, hlr⟩, hf, h1c, h⟩ := h
  have hcl : c.length = len * i.size := hcl
  obtain ⟨cs, y, ec, hc, _⟩ := hr.cells
  have hcs : cs.length = len * i.size := by rw [hc.length]; exact hcl
  have hsz := hr.cap cap rfl i hi
  have hsz2 : c'.size = cs.length + y.length := by have := congrArg List.length ec; simpa using this
  have h : (fnat (Nat.add len m) fun n => fnat (Bool.rec n cap (Nat.ble n cap)) fun k => newSlice (A.put j .dead) n k (c ++ xs) e (.grown k)) = some (v, A') := h
  simp only [fnat_eq, newSlice, Option.some.injEq, Prod.mk.injEq] at h
  obtain ⟨rfl, rfl⟩ := h
  have hadd : Nat.add len m = len + m := rfl
  simp only [hadd] at *
  by_cases hin : len + m ≤ cap + d
  · -- in place
    rw [append_room h0 h1 ht hi hxt hni hlen (hsrc w rfl) hin]
    have hk : ∃ k d2, (Bool.rec (len + m) cap (Nat.ble (len + m) cap) : Nat) = k ∧ k + d2 = cap + d := by
      cases hb : Nat.ble (len + m) cap with
      | true => exact ⟨cap, d, rfl, rfl⟩
      | false => exact ⟨len + m, cap + d - (len + m), rfl, by omega⟩
    obtain ⟨k, d2, hk, hkd⟩ := hk
    rw [hk]
    have hfit : len * i.size + xs'.length ≤ c'.size := by rw [hxl', hsz, ← Nat.add_mul]; exact Nat.mul_le_mul_right _ hin
    obtain ⟨w', hst, q1, q2, q3, q4, q5, q6⟩ := cellsStored (P := P) (o := len * i.size) xs' 0 c' w hw (by simpa using hfit) (hxx.oneCells h1c) (hr.free rfl)
    simp only [Nat.add_zero] at q1
    have hnew : (⟨c'.toList.take (len * i.size) ++ (xs' ++ c'.toList.drop (len * i.size + xs'.length))⟩ : Array Value) = ⟨(cs ++ xs') ++ y.drop xs'.length⟩ := by
      congr 1
      rw [ec, ← hcs, List.take_left, List.drop_append, List.drop_eq_nil_of_le (by omega)]
      simp
    rw [hnew] at q1
    have hyl : ((cs ++ xs') ++ y.drop xs'.length).length = c'.size := by simp; omega
    obtain ⟨r1, r2⟩ := hR.move (d2 := d2) (o2 := .row (c ++ xs) e (.grown k)) hsg hg rfl q1 ⟨.inr rfl, rowR_grown (hc.append hxx) hi (by rw [hyl, hsz, hkd]) (by rw [hyl]; exact hr.free rfl)⟩ q2 q3 q4 q5 q6
    refine ⟨.slice (some ⟨b, 0, none⟩) (len + m) (cap + d), _, w', ?_, ?_, r1, r2⟩
    · simp only [add_plain, Nat.zero_add, Sem.run_bind, hst, Result.andThen_ok, Sem.run_pure]
    · have := VR.slice (σ := ext σ A.next (b, d2)) (i := A.next) (o := 0) (l := len + m) (c := k) (ext_self _ _)
      rw [hkd] at this
      exact this
  · -- moved
    have hb : Nat.ble (len + m) cap = false := by
      cases hb : Nat.ble (len + m) cap with
      | false => rfl
      | true => exact absurd (bleIff.1 hb) (by omega)
    simp only [hb]
    have hs : VR σ (.slice (some ⟨j, 0, none⟩) len cap) (.slice (some ⟨b, 0, none⟩) len (cap + d)) := .slice hsg
    obtain ⟨old', hoo, hold'⟩ := srcA_run (n := len) (size := i.size) hR (xs := c) (by
      rw [srcA_slice, rowAt_some]
      exact ⟨c, e, _, hg, ltake_all c _ hcl⟩) hs
    obtain ⟨nc, hnc, hrun⟩ := append_grow (P := P) (w := w) (ty := ty) h0 h1 ht hi hz hxt hni hlen hsrc hold' hin hf
    have hol : old'.length = len * i.size := by rw [hoo.length]; exact hcl
    obtain ⟨k1, k2⟩ := hR.kill (hR.lt hsg)
    have hgg := k1.new (o := .row (c ++ xs) e (.grown (len + m))) (d := nc - (len + m)) (x := .cells ⟨old' ++ xs' ++ lrep (nc - (len + m)) z.cells.toList⟩ e)
      (w' := { w with drawn := w.drawn + 1, heap := w.heap.push (.cells ⟨old' ++ xs' ++ lrep (nc - (len + m)) z.cells.toList⟩ e) }) rfl
      ⟨.inr rfl, rowR_grown (cs := old' ++ xs') (hoo.append hxx) hi (by rw [List.length_append, List.length_append, length_lrep, hxl', hzl, hol, ← Nat.add_mul, ← Nat.add_mul]) (unfrozen_zero _)⟩ rfl rfl rfl
    refine ⟨_, _, _, hrun, ?_, hgg.1, k2.trans hgg.2⟩
    have := VR.slice (σ := ext σ A.next (w.heap.size, nc - (len + m))) (i := A.next) (o := 0) (l := len + m) (c := len + m) (ext_self _ _)
    rw [show len + m + (nc - (len + m)) = nc by omega] at this
    exact this
end
theorem append_run (hR : Rel P σ A w) {t ty : TypeId} {ts : Array TypeId} {xt : Option TypeId} {s s' x x' v : Value} {A' : AW} (h0 : ts[0]? = some t) (h1 : ts[1]? = xt) (h : appendA P t xt A s x = some (v, A')) (hs : VR σ s s') (hx : VR σ x x') :
    Gives P σ A w ((Builtin.append_ ts ty #[s', x']).run P w) v A' := by
  simp only [appendA, ob_some, bt_some, sliceT_some, lenB_iff] at h
  obtain ⟨e, ht, xt', rfl, xd, hxt, hni, i, hi, z, hz, hzl, m, hm, xs, hxs, hxl, h⟩ := h
  have hxl : xs.length = m * i.size := hxl
  have hlen := lenV_run (P := P) hm hx w
  obtain ⟨xs', hxx, hsrc⟩ := srcA_run hR hxs hx
  have hxl' : xs'.length = m * i.size := by rw [hxx.length]; exact hxl
  have hzl' : z.cells.toList.length = i.size := by
    have : (cellsA z) = z.cells.toList := by cases z <;> rfl
    rw [← this]; exact hzl
  cases s with
  | slice a len cap =>
    cases a with
    | none =>
      have h : bt (Nat.beq cap 0) (appNil A e i.bytes m xs) = some (v, A') := h
      simp only [bt_some, beqIff] at h
      obtain ⟨rfl, h⟩ := h
      have hs' : s' = .slice none 0 0 ∧ len = 0 := by
        cases hs with
        | flat e => cases len with
          | zero => exact ⟨rfl, rfl⟩
          | succ n => simp [Ev.flat] at e
      obtain ⟨rfl, rfl⟩ := hs'
      cases m with
      | zero =>
        have h : some (Value.slice none 0 0, A) = some (v, A') := h
        cases h
        rw [append_room h0 h1 ht hi hxt hni hlen (hsrc w rfl) (Nat.le_refl _)]
        exact ⟨_, σ, w, rfl, .flat rfl, hR, .refl hR.lim⟩
      | succ m =>
        have h : bt (few (m + 1) i.bytes) (newSlice A (m + 1) (m + 1) xs e (.grown (m + 1))) = some (v, A') := h
        simp only [bt_some, newSlice, Option.some.injEq, Prod.mk.injEq] at h
        obtain ⟨hf, rfl, rfl⟩ := h
        obtain ⟨nc, hnc, hrun⟩ := append_grow (P := P) (w := w) (ty := ty) (base := none) (len := 0) (cap := 0) (old' := []) h0 h1 ht hi hz hxt hni hlen hsrc (fun w2 _ => rfl) (by omega) (by simpa using hf)
        simp only [Nat.zero_add] at hnc hrun
        have hg := hR.new (o := .row xs e (.grown (m + 1))) (d := nc - (m + 1)) (x := .cells ⟨[] ++ xs' ++ lrep (nc - (m + 1)) z.cells.toList⟩ e)
          (w' := { w with drawn := w.drawn + 1, heap := w.heap.push (.cells ⟨[] ++ xs' ++ lrep (nc - (m + 1)) z.cells.toList⟩ e) }) rfl
          ⟨.inr rfl, rowR_grown (cs := xs') hxx hi (by rw [List.length_append, length_lrep, hxl', hzl', ← Nat.add_mul]) (unfrozen_zero _)⟩ rfl rfl rfl
        refine ⟨_, _, _, hrun, ?_, hg.1, hg.2⟩
        have := VR.slice (σ := ext σ A.next (w.heap.size, nc - (m + 1))) (i := A.next) (o := 0) (l := m + 1) (c := m + 1) (ext_self _ _)
        rw [show m + 1 + (nc - (m + 1)) = nc by omega] at this
        exact this
    | some a =>
      have h : (plainAt a fun b o => rowAt A.heap b fun c e' md => (match md with
        | .grown rc => appGrown A e i.size i.bytes b o len cap c e' rc m xs
        | .gro => none
        | md => appOwn A e i.size i.bytes b o len cap c e' md m xs)) = some (v, A') := h
      simp only [plainAt_some, rowAt_some] at h
      obtain ⟨ha, c, e', md, hg, h⟩ := h
      rw [ha] at hs
      obtain ⟨b, d, hsg, rfl⟩ := hs.slice_inv
      cases md with
      | own => exact appOwn_run hR h0 h1 ht hi hz hzl' hxt hni hlen hsrc hxx hxl hsg hg rfl h
      | ro => exact appOwn_run hR h0 h1 ht hi hz hzl' hxt hni hlen hsrc hxx hxl hsg hg rfl h
      | grown rc => exact appGrown_run hR h0 h1 ht hi hz hzl' hxt hni hlen hsrc hxx hxl hsg hg h
      | gro => cases h
  | _ => cases h
theorem copy_run (hR : Rel P σ A w) {t ty : TypeId} {ts : Array TypeId} {s s' d d' v : Value} {A' : AW} (h0 : ts[0]? = some t) (h : copyA P t A d s = some (v, A')) (hd : VR σ d d') (hs : VR σ s s') :
    Gives P σ A w ((Builtin.copy_ ts ty #[d', s']).run P w) v A' := by
  simp only [copyA, ob_some, sliceT_some] at h
  obtain ⟨e, ht, sz, hsz, m, hm, h⟩ := h
  have hlen := lenV_run (P := P) hm hs w
  cases d with
  | slice a len cap =>
    simp only [fnat_eq, ob_some] at h
    obtain ⟨xs, hxs, h⟩ := h
    have hmin : (Bool.rec len m (Nat.ble m len) : Nat) = Nat.min m len := by
      cases hb : Nat.ble m len with
      | true => have := bleIff.1 hb; show m = min m len; omega
      | false =>
        have : ¬ m ≤ len := fun hh => by rw [bleIff.2 hh] at hb; cases hb
        show len = min m len; omega
    rw [hmin] at hxs h
    obtain ⟨xs', hxx, hsrc⟩ := srcA_run hR hxs hs
    have ha0 : ∀ q : Value, (#[q, s'] : Array Value)[0]? = some q := fun _ => rfl
    have ha1 : ∀ q : Value, (#[q, s'] : Array Value)[1]? = some s' := fun _ => rfl
    cases a with
    | none =>
      have h : (ob (natV .i64 (Nat.min m len)) fun v => some (v, A)) = some (v, A') := h
      rw [natV_eq] at h
      cases h
      have hd' : d' = .slice none len cap := by cases hd with | flat e => rfl
      subst hd'
      refine ⟨_, σ, w, ?_, .flat rfl, hR, .refl hR.lim⟩
      simp only [Builtin.copy_, h0, ha0, ha1, Sem.run_bind, run_under ht, Result.andThen_ok, hlen, run_size hsz, hsrc w rfl, Sem.run_pure]
      rfl
    | some a =>
      have h : (plainAt a fun b o => rowAt A.heap b fun c e' md => bt md.writes (bt (lall oneK xs) (ob (lover xs o c) fun c' => ob (natV .i64 (Nat.min m len)) fun v => some (v, A.put b (.row c' e' md))))) = some (v, A') := h
      simp only [plainAt_some, rowAt_some, bt_some, ob_some, natV_eq, Option.some.injEq, Prod.mk.injEq] at h
      obtain ⟨ha, c, e', md, hg, hwr, h1c, c2, hc2, _, rfl, rfl, rfl⟩ := h
      rw [ha] at hd
      obtain ⟨b, dd, hsg, rfl⟩ := hd.slice_inv
      obtain ⟨c', fz, hw, hr⟩ := hR.row hsg hg hwr
      obtain ⟨hfit, hr2⟩ := hr.over hxx hc2
      obtain ⟨w', hst, q1, q2, q3, q4, q5, q6⟩ := cellsStored (P := P) (o := a.off) xs' 0 c' w hw (by simpa using hfit) (hxx.oneCells h1c) (hr.free hwr)
      simp only [Nat.add_zero] at q1
      obtain ⟨r1, r2⟩ := hR.upd (o2 := .row c2 e' md) hsg hg hwr q1 ⟨.inr rfl, hr2⟩ q2 q3 q4 q5 q6
      refine ⟨_, σ, w', ?_, .flat rfl, r1, r2⟩
      simp only [Builtin.copy_, h0, ha0, ha1, Sem.run_bind, run_under ht, Result.andThen_ok, hlen, run_size hsz, hsrc w rfl, hst, Sem.run_pure]
      rfl
  | _ => cases h
theorem byteV_some {v : Value} {b : UInt8} : byteV v = some b ↔ ∃ n : Nat, v = .int .u8 (.ofNat n) ∧ b = UInt8.ofNat n := by
  cases v <;> simp [byteV]
  rename_i k i; cases k <;> cases i <;> simp [eq_comm]
  exact ⟨fun h => ⟨_, rfl, h⟩, fun ⟨n, h1, h2⟩ => by have := Int.ofNat_inj.1 h1; subst this; exact h2⟩
theorem byteW_some {v : Value} {b : UInt8} (h : byteW v = some b) : v = .int .u8 (.ofNat b.toNat) := by
  unfold byteW at h
  split at h
  · simp only [bt_some, blt_iff, Option.some.injEq] at h
    obtain ⟨h1, rfl⟩ := h
    have e : (UInt8.ofNat _).toNat = _ := UInt8.toNat_ofNat_of_lt (show _ < UInt8.size from h1)
    rw [e]
  · cases h
theorem bytesW {l : List Value} {bs : List UInt8} (h : omap byteW l = some bs) : l = bs.map fun b => .int .u8 (.ofNat b.toNat) := by
  induction l generalizing bs with
  | nil => rw [omap_nil] at h; subst h; rfl
  | cons x l ih =>
    obtain ⟨y, ys, hy, hys, rfl⟩ := omap_cons.1 h
    rw [byteW_some hy, ih hys]; rfl
theorem bytesW_flats (bs : List UInt8) : flats (bs.map fun b => .int .u8 (.ofNat b.toNat)) = true := by
  unfold flats
  rw [lall_iff]
  intro x hx
  obtain ⟨b, _, rfl⟩ := List.mem_map.1 hx
  rfl
theorem bytes_flats {l : List Value} {bs : List UInt8} (h : omap byteV l = some bs) : flats l = true := by
  unfold flats
  rw [lall_iff]
  induction l generalizing bs with
  | nil => simp
  | cons x l ih =>
    obtain ⟨y, ys, hy, hys, rfl⟩ := omap_cons.1 h
    obtain ⟨n, rfl, rfl⟩ := byteV_some.1 hy
    intro v hv
    rcases List.mem_cons.1 hv with rfl | hv
    · rfl
    · exact ih hys v hv
theorem cellsOf_size {e : TypeId} {n : Nat} (h : sizeA P e = some n) : P.cellsOf e = n := by
  obtain ⟨i, hi, rfl⟩ := sizeA_some.1 h
  simp [Program.cellsOf, hi]
theorem shut_roomy (m : Md) : (shut m).roomy = m.roomy := by cases m <;> rfl
theorem shut_writes (m : Md) : (shut m).writes = false := by cases m <;> rfl
theorem us_types {ts : Array TypeId} {t : TypeId} (h : ts[0]? = some t) (ty : TypeId) (q : Option Addr) (k : Int) : Builtin.unsafeString_ ts ty #[.pointer q, .int .i64 k] = Builtin.unsafeString_ #[t, 0] ty #[.pointer q, .int .i64 k] := by
  unfold Builtin.unsafeString_
  rw [h]
  rfl
theorem unsafeString_run (hR : Rel P σ A w) {t ty : TypeId} {ts : Array TypeId} {p p' n n' v : Value} {A' : AW} (h0 : ts[0]? = some t) (h : unsafeStringA P t A p n = some (v, A')) (hp : VR σ p p') (hn : VR σ n n') :
    Gives P σ A w ((Builtin.unsafeString_ ts ty #[p', n']).run P w) v A' := by
  simp only [unsafeStringA, ob_some, bt_some, ptrT_some, i64V_some, blt_iff] at h
  obtain ⟨u, ht, k, rfl, hk, h⟩ := h
  obtain rfl := hn.of_flat rfl
  have hmax : IntKind.i64.max = 9223372036854775807 := rfl
  have hpos : ¬ (Int.ofNat k < 0) := by simp
  have hle : ¬ (Int.ofNat k > 9223372036854775807) := by simp; omega
  cases p with
  | pointer a =>
    cases k with
    | zero =>
      have h : some (mkStr [], A) = some (v, A') := h
      cases h
      refine ⟨.string .empty, σ, w, ?_, .flat rfl, hR, .refl hR.lim⟩
      have hp' : ∃ q, p' = .pointer q := by cases hp with
        | flat e => exact ⟨_, rfl⟩
        | ptr e => exact ⟨_, rfl⟩
      obtain ⟨q, rfl⟩ := hp'
      exact (congrArg (fun s => s.run P w) (us_types h0 ty q 0)).trans (Go.Lib.run_unsafeString_none w t 0 ty q)
    | succ k =>
      have h : (ob a fun a => plainAt a fun b o => bt (Nat.beq o 0) (rowAt A.heap b fun c e md => bt md.writes (bt (Nat.beq e u) (ob (sizeA P e) fun sz => bt (Nat.beq sz 1)
        (ob (ltake (k + 1) c) fun l => ob (omap byteW l) fun bs => some (mkStr bs, A.put b (.row c e (shut md)))))))) = some (v, A') := h
      simp only [ob_some, plainAt_some, bt_some, beqIff, rowAt_some, Option.some.injEq, Prod.mk.injEq] at h
      obtain ⟨a, rfl, ha, ho, c, e, md, hg, hwr, rfl, sz, hsz, rfl, l, hl, bs, hbs, rfl, rfl⟩ := h
      rw [ha, ho] at hp
      obtain ⟨b, d, hsg, rfl⟩ := hp.ptr_inv
      obtain ⟨c', fz, hw, hr⟩ := hR.row hsg hg hwr
      obtain ⟨rfl, hlen⟩ := ltake_some _ _ _ hl
      obtain ⟨cs, y, ec, hc, hx⟩ := hr.cells
      have hcl := hc.length
      have hsame : cs.take (k + 1) = c.take (k + 1) := (hc.take (k + 1)).of_flats (by rw [bytesW hbs]; exact bytesW_flats bs)
      have hsz2 : c'.size = cs.length + y.length := by have := congrArg List.length ec; simpa using this
      have hll : (c.take (k + 1)).length = k + 1 := by simp; omega
      have hcel := cellsOf_size hsz
      have hlt := (Array.getElem?_eq_some_iff.1 hw).1
      have hmod : (w.freeze ⟨b, 0, none⟩ (k + 1)).heap[b]? = some (.cells c' e (if fz.1 == fz.2 then (0, 0 + (k + 1)) else (min fz.1 0, max fz.2 (0 + (k + 1))))) := by
        obtain ⟨lo, hi⟩ := fz
        simp [World.freeze, Array.getElem?_modify, hw]
      obtain ⟨q1, q2⟩ := hR.upd (w' := w.freeze ⟨b, 0, none⟩ (k + 1)) (o2 := .row c e (shut md)) hsg hg hwr hmod
        ⟨.inr rfl, ⟨⟨cs, y, ec, hc, by rw [shut_roomy]; exact hx⟩, by rw [shut_roomy]; exact hr.exact_, fun rc hh => (by cases md <;> cases hh), by rw [shut_writes]; intro hh; cases hh⟩⟩
        (fun j hj => by simp [World.freeze, Array.getElem?_modify, Ne.symm hj]) (by simp [World.freeze]) (by simp [World.freeze]) (by simp [World.freeze]) (by simp [World.freeze])
      refine ⟨.string ⟨⟨bs⟩⟩, σ, _, ?_, .flat rfl, q1, q2⟩
      have hshape : w.shape? b = some (e, c'.size) := shape_of hw
      have hbl : bs.length = k + 1 := by have := congrArg List.length (bytesW hbs); rw [hll] at this; simpa using this.symm
      have hus := Go.Lib.run_unsafeString_row (P := P) w t 0 ty e ht hcel b c'.size hshape bs (by intro hh; rw [hh] at hbl; cases hbl) (by omega) (by omega) (fun j x hj => by
        rw [add_plain, Nat.zero_add]
        have hcj : (c.take (k + 1))[j]? = some (.int .u8 (.ofNat x.toNat)) := by rw [bytesW hbs, List.getElem?_map, hj]; rfl
        refine cell_of hw ?_
        have hjl : j < k + 1 := by rw [← hbl]; exact (List.getElem?_eq_some_iff.1 hj).1
        rw [← Array.getElem?_toList, ec, List.getElem?_append_left (by omega)]
        rw [← hsame, List.getElem?_take, if_pos hjl] at hcj
        exact hcj)
      rw [hbl] at hus
      exact (congrArg (fun s => s.run P w) (us_types h0 ty _ _)).trans hus
  | _ => cases h
end Go.Ev
end

/- The evaluator: conversions of strings; every loud operation does what the model does. -/
section
set_option linter.unusedSectionVars false
namespace Go.Ev
variable {P : Program} {σ σ' : Sg} {A : AW} {w w' : World} [Frozen P]
theorem u8D_eq {d : TypeDesc} (h : u8D d = true) : d = .int .u8 := by
  cases d <;> try (cases h; done)
  rename_i k; cases k <;> first | rfl | (cases h)
theorem strD_eq {d : TypeDesc} (h : strD d = true) : d = .string := by cases d <;> first | rfl | (cases h)
theorem toBytes_run (hR : Rel P σ A w) {src dst e : TypeId} {x x' v : Value} {A' : AW} (hsd : P.underlying src = some .string) (hdd : P.underlying dst = some (.slice e)) (h : toBytes P A e x = some (v, A')) (hx : VR σ x x') :
    Gives P σ A w ((convert src dst x').run P w) v A' := by
  simp only [toBytes, ob_some, bt_some, beqIff, strV_some, fnat_eq, newSlice, Option.some.injEq, Prod.mk.injEq] at h
  obtain ⟨d, hd, hu, sz, hsz, rfl, s, rfl, rfl, rfl⟩ := h
  obtain rfl := u8D_eq hu
  obtain rfl := hx.of_flat rfl
  obtain ⟨i, hi, his⟩ := sizeA_some.1 hsz
  let cap := (Question.appendCap s.length 0 e).cut (w.tape w.drawn (.appendCap s.length 0 e))
  have hcap : s.length ≤ cap := Nat.le_add_right _ _
  let row : List Value := s.map byteOf' ++ List.replicate (cap - s.length) (.int .u8 0)
  have hrl : row.length = cap := by simp [row]; omega
  have hg := hR.new (o := .row (s.map byteOf') e (.grown s.length)) (d := cap - s.length) (x := .cells ⟨row⟩ e (cap, cap + 1))
    (w' := { w with drawn := w.drawn + 1, heap := w.heap.push (.cells ⟨row⟩ e (cap, cap + 1)) }) rfl
    ⟨.inr rfl, rowR_grown (cs := s.map byteOf') (x := List.replicate (cap - s.length) (.int .u8 0)) (.bytes _) hi (by rw [his]; show row.length = _; rw [hrl]; omega) (by intro o ho hh; have : row.length = cap := hrl; simp only [row] at this; omega)⟩ rfl rfl rfl
  refine ⟨.slice (some ⟨w.heap.size, 0, none⟩) s.length cap, _, _, ?_, ?_, hg.1, hg.2⟩
  · have hch : (choose (.appendCap s.length 0 e)).run P w = .ok cap { w with drawn := w.drawn + 1 } := by simp [choose, Sem.run, Question.forced, cap]
    have hss : (⟨⟨s⟩⟩ : ByteArray).size = s.length := rfl
    simp only [convert, Sem.run_bind, run_under hsd, run_under hdd, Result.andThen_ok, mkStr, run_under hd, Conv.stringToBytes, hss, hch, run_newRow, Sem.run_pure]
    have hrow : ((⟨⟨s⟩⟩ : ByteArray).data.map (fun b => Value.int .u8 b.toNat) ++ Array.replicate (cap - s.length) (Value.int .u8 0)) = ⟨row⟩ := by
      apply Array.toList_inj.1
      simp [row, byteOf']
    simp only [hrow]
    simp [markStringish, shape, freeze, Sem.run, World.shape?, World.freeze, hrl]
    apply Array.ext_getElem?
    intro q
    rw [Array.getElem?_modify]
    by_cases hq : w.heap.size = q
    · subst hq; simp
    · simp [hq, Array.getElem?_push, Ne.symm hq]
  · have := VR.slice (σ := ext σ A.next (w.heap.size, cap - s.length)) (i := A.next) (o := 0) (l := s.length) (c := s.length) (ext_self _ _)
    rw [show s.length + (cap - s.length) = cap by omega] at this
    exact this
theorem pushBytes_run (f : Value → ByteArray → Sem (ForInStep ByteArray)) (hf : ∀ (n : Nat) s, f (.int .u8 (.ofNat n)) s = pure (.yield (s.push (UInt8.ofNat n)))) : ∀ (l : List Value) (bs : List UInt8) (acc : ByteArray) (w : World), omap byteV l = some bs →
    (forIn l acc f).run P w = .ok ⟨acc.data ++ bs.toArray⟩ w := by
  intro l
  induction l with
  | nil => intro bs acc w h; rw [omap_nil] at h; subst h; simp
  | cons x l ih =>
    intro bs acc w h
    obtain ⟨y, ys, hy, hys, rfl⟩ := omap_cons.1 h
    obtain ⟨n, rfl, rfl⟩ := byteV_some.1 hy
    rw [List.forIn_cons, hf]
    have := ih ys (acc.push (UInt8.ofNat n)) w hys
    simp only [Sem.run_bind, Sem.run_pure, Result.andThen_ok]
    rw [this]
    congr 1
    apply ByteArray.ext
    simp [ByteArray.push]
theorem toStr_run (hR : Rel P σ A w) {src dst e : TypeId} {x x' v : Value} {A' : AW} (hsd : P.underlying src = some (.slice e)) (hdd : P.underlying dst = some .string) (h : toStr P A e x = some (v, A')) (hx : VR σ x x') :
    Gives P σ A w ((convert src dst x').run P w) v A' := by
  simp only [toStr, ob_some, bt_some] at h
  obtain ⟨d, hd, hu, h⟩ := h
  obtain rfl := u8D_eq hu
  cases x with
  | slice a len cap =>
    simp only [ob_some, Option.some.injEq, Prod.mk.injEq] at h
    obtain ⟨l, hl, bs, hbs, rfl, rfl⟩ := h
    obtain ⟨l', hll, hsrc⟩ := srcA_run hR hl hx
    have hsame := hll.of_flats (bytes_flats hbs)
    subst hsame
    refine ⟨mkStr bs, σ, w, ?_, .flat rfl, hR, .refl hR.lim⟩
    have hx' : ∃ a' cap', x' = .slice a' len cap' := by cases hx with
      | flat e => exact ⟨_, _, rfl⟩
      | slice e => exact ⟨_, _, rfl⟩
    obtain ⟨a', cap', rfl⟩ := hx'
    simp only [convert, Sem.run_bind, run_under hsd, run_under hdd, Result.andThen_ok, run_under hd, Conv.bytesToString]
    have hs2 := hsrc w rfl
    cases a' with
    | none =>
      have : (pure #[] : Sem (Array Value)).run P w = .ok ⟨l'⟩ w := hs2
      have hl0 : l' = [] := by
        simp only [Sem.run_pure, Result.ok.injEq] at this
        have := congrArg Array.toList this.1
        simpa using this.symm
      subst hl0
      rw [omap_nil] at hbs; subst hbs
      rfl
    | some a' =>
      have hs2 : (loadCells a' (len * 1)).run P w = .ok ⟨l'⟩ w := hs2
      rw [Nat.mul_one] at hs2
      simp only [Sem.run_bind, hs2, Result.andThen_ok]
      rw [← Array.forIn_toList, pushBytes_run _ (fun _ _ => rfl) l' bs .empty w hbs]
      simp only [Result.andThen_ok, Sem.run_pure]
      congr 2
      apply ByteArray.ext
      simp
  | _ => cases h
theorem convA_run (hR : Rel P σ A w) {src dst : TypeId} {x x' v : Value} {A' : AW} (h : convA P src dst A x = some (v, A')) (hx : VR σ x x') : Gives P σ A w ((convert src dst x').run P w) v A' := by
  simp only [convA, ob_some] at h
  obtain ⟨sd, hsd, dd, hdd, h⟩ := h
  split at h
  · simp only [bt_some] at h
    obtain ⟨hs, h⟩ := h
    obtain rfl := strD_eq hs
    exact toBytes_run hR hsd hdd h hx
  · split at h
    · exact toStr_run hR hsd hdd h hx
    · simp only [ob_some, strV_some, Option.some.injEq, Prod.mk.injEq] at h
      obtain ⟨s, rfl, rfl, rfl⟩ := h
      obtain rfl := hx.of_flat rfl
      refine ⟨_, σ, w, ?_, .flat rfl, hR, .refl hR.lim⟩
      simp only [convert, Sem.run_bind, run_under hsd, run_under hdd, Result.andThen_ok, mkStr]
      rfl
    · cases h
  · cases h
theorem evE_sound (hR : Rel P σ A w) {o : Oper} {a : Act} {F : T Value} {f : Fx} (hO : OK P σ F a o.op.operands.toList) (h : evE o.op P F A = some f) : Fine P σ A w ((execOp a.eval o).run P w) f := by
  obtain ⟨dst, op, ty, pos, after, guard⟩ := o
  cases op <;> simp only [evE] at h <;> try (cases h; done)
  case alloc e =>
    simp only [eAlloc, newPtr, ob_some, Option.some.injEq] at h
    obtain ⟨z, hz, rfl⟩ := h
    exact (alloc_run hR hz).fine
  case box e x =>
    simp only [eBox, newPtr, ob_some, bt_some, Option.some.injEq] at h
    obtain ⟨v, hv, hk, rfl⟩ := h
    exact (box_run hR (hO x (by simp [Op.operands]) v hv) hk).fine
  case buildSlice t n ps =>
    simp only [eBuildSlice, ob_some, fxv_some] at h
    obtain ⟨vs, hvs, v, A', h, rfl⟩ := h
    obtain ⟨ps⟩ := ps
    have hp := parts_run (a := a) (fun x hx => hO x (by simpa [Op.operands] using hx)) hvs
    have := (buildSlice_run hR h hp).fine
    simpa only [execOp, map_pairs] using this
  case store t x y =>
    simp only [eStore, ob_some, fxu_some] at h
    obtain ⟨p, hp, v, hv, A', h, rfl⟩ := h
    exact (store_run hR h (hO x (by simp [Op.operands]) p hp) (hO y (by simp [Op.operands]) v hv)).fine
  case insert t m k v =>
    simp only [eUpdate, ob_some, fxu_some] at h
    obtain ⟨m', hm, k', hk, v', hv, A', h, rfl⟩ := h
    exact (mapUpdate_run hR h (hO m (by simp [Op.operands]) _ hm) (hO k (by simp [Op.operands]) _ hk) (hO v (by simp [Op.operands]) _ hv)).fine
  case mapUpdate t m k v =>
    simp only [eUpdate, ob_some, fxu_some] at h
    obtain ⟨m', hm, k', hk, v', hv, A', h, rfl⟩ := h
    exact (mapUpdate_run hR h (hO m (by simp [Op.operands]) _ hm) (hO k (by simp [Op.operands]) _ hk) (hO v (by simp [Op.operands]) _ hv)).fine
  case makeMap t r =>
    cases r with
    | none =>
      have h : some (Fx.val (.map (some A.next)) (A.add (.map [] 0))) = some f := h
      cases h
      exact (makeMap_run hR (t := t) (r := none) (fun v hv => by cases hv)).fine
    | some x =>
      have h : (ob (mapT P t) fun _ => ob (opnd P F x) fun v => ob (numV v) fun _ => some (Fx.val (.map (some A.next)) (A.add (.map [] 0)))) = some f := h
      simp only [ob_some, mapT_some, numV_some, Option.some.injEq] at h
      obtain ⟨q, hq, v, hv, n, ⟨k, rfl⟩, rfl⟩ := h
      have hx := (hO x (by simp [Op.operands]) _ hv).of_flat rfl
      have := (makeMap_run hR (t := t) (r := some (.int k (.ofNat n))) (fun v hv => by cases hv; exact ⟨⟨k, n, rfl⟩, q, hq⟩)).fine
      simpa only [execOp, Option.map, hx] using this
  case makeSlice t l c =>
    simp only [eMakeSlice, ob_some, fxv_some] at h
    obtain ⟨l', hl, c', hc, v, A', h, rfl⟩ := h
    exact (makeSlice_run hR h (hO l (by simp [Op.operands]) _ hl) (hO c (by simp [Op.operands]) _ hc)).fine
  case convert s d x =>
    simp only [eConv, ob_some, fxv_some] at h
    obtain ⟨u, hu, v, A', h, rfl⟩ := h
    exact (convA_run hR h (hO x (by simp [Op.operands]) _ hu)).fine
  case defer c =>
    obtain ⟨cal, ⟨args⟩, ats⟩ := c
    cases cal with
    | value g =>
      have h : (ob (opnds P F args) fun args => ob (opnd P F g) fun v => match v with
        | .func fn first cap => some (Fx.defr { target := .fn fn cap, args := ⟨first.toList ++ args⟩ } A)
        | _ => none) = some f := h
      simp only [ob_some] at h
      obtain ⟨vs, hvs, u, hu, h⟩ := h
      have hargs := opnds_run (a := a) (fun x hx => hO x (by simp [Op.operands, Call.operands]; exact .inr hx)) hvs
      have hf := hO g (by simp [Op.operands, Call.operands]) u hu
      split at h
      · rename_i fn first cap
        cases h
        obtain ⟨first⟩ := first
        obtain ⟨cap⟩ := cap
        cases hE : a.eval g <;> rw [hE] at hf <;> cases hf
        · rename_i e1; simp [flat] at e1
        · rename_i f' c' hff hcc
          refine ⟨rfl, fn, cap, c', first ++ vs, f' ++ args.map a.eval, rfl, hcc, hff.append hargs, ?_⟩
          simp only [execOp, resolve, hE, Deferred.ofValue, Sem.run_bind, Sem.run_pure, Result.andThen_ok, map_ops]
          simp
      · cases h
    | _ => cases h
  case call c =>
    obtain ⟨cal, ⟨args⟩, ats⟩ := c
    cases cal with
    | value g =>
      have h : (ob (opnds P F args) fun args => ob (opnd P F g) fun v => match v with
        | .func (.func f) first cap => some (Fx.enter f ((first.toList ++ args) ++ cap.toList) A)
        | _ => none) = some f := h
      simp only [ob_some] at h
      obtain ⟨vs, hvs, u, hu, h⟩ := h
      have hargs := opnds_run (a := a) (fun x hx => hO x (by simp [Op.operands, Call.operands]; exact .inr hx)) hvs
      have hf := hO g (by simp [Op.operands, Call.operands]) u hu
      split at h
      · rename_i fn first cap
        cases h
        obtain ⟨first⟩ := first
        obtain ⟨cap⟩ := cap
        cases hE : a.eval g <;> rw [hE] at hf <;> cases hf
        · rename_i e1; simp [flat] at e1
        · rename_i f' c' hff hcc
          refine ⟨rfl, (f' ++ args.map a.eval) ++ c', (hff.append hargs).append hcc, ?_⟩
          simp only [execOp, resolve, hE, Deferred.ofValue, Sem.run_bind, Sem.run_pure, Result.andThen_ok, map_ops, invoke]
          simp
      · cases h
    | invoke r m => cases h
    | builtin b =>
      have two : ∀ (g : Program → TypeId → Option TypeId → AW → Value → Value → Option Fx), eTwo g ⟨.builtin b, ⟨args⟩, ats⟩ P F A = some f → ∃ x y t u v, args = [x, y] ∧ ats[0]? = some t ∧ VR σ u (a.eval x) ∧ VR σ v (a.eval y) ∧ g P t ats[1]? A u v = some f := by
        intro g hq
        unfold eTwo at hq
        split at hq
        · rename_i x y hxy
          simp only at hxy
          simp only [ob_some, lget_eq] at hq
          obtain ⟨t, ht, u, hu, v, hv, hq⟩ := hq
          subst hxy
          refine ⟨x, y, t, u, v, rfl, by rw [← Array.getElem?_toList]; exact ht, hO x (by simp [Op.operands, Call.operands]) u hu, hO y (by simp [Op.operands, Call.operands]) v hv, by rw [← Array.getElem?_toList]; exact hq⟩
        · cases hq
      have key : ∀ (s : Sem Value) v A', f = .val v A' → (∀ cs, builtin b ats ty cs ⟨args.map a.eval⟩ = (do pure (.value (← s)))) → Gives P σ A w (s.run P w) v A' →
          Fine P σ A w ((execOp a.eval ⟨dst, .call ⟨.builtin b, ⟨args⟩, ats⟩, ty, pos, after, guard⟩).run P w) f := by
        intro s v A' hf he hg
        subst hf
        have := hg.fine
        simp only [execOp, resolve, Sem.run_bind, Sem.run_pure, Result.andThen_ok, invoke]
        rw [map_ops, he]
        exact this
      cases b <;> simp only [eCall, eBuiltin] at h <;> try (cases h; done)
      case append =>
        obtain ⟨x, y, t, u, v, rfl, ht, hx, hy, hq⟩ := two _ h
        simp only [gAppend, fxv_some] at hq
        obtain ⟨r, A', hq, rfl⟩ := hq
        exact key _ _ _ rfl (fun _ => rfl) (append_run hR ht rfl hq hx hy)
      case copy =>
        obtain ⟨x, y, t, u, v, rfl, ht, hx, hy, hq⟩ := two _ h
        simp only [gCopy, fxv_some] at hq
        obtain ⟨r, A', hq, rfl⟩ := hq
        exact key _ _ _ rfl (fun _ => rfl) (copy_run hR ht hq hx hy)
      case delete =>
        obtain ⟨x, y, t, u, v, rfl, ht, hx, hy, hq⟩ := two _ h
        simp only [gDelete, fxu_some] at hq
        obtain ⟨A', hq, rfl⟩ := hq
        obtain ⟨⟨⟩⟩ := ats
        · simp at ht
        · rename_i t0 ts
          have : t0 = t := by simpa using ht
          subst this
          exact key _ _ _ rfl (fun _ => rfl) (delete_run hR hq hx hy)
      case unsafeString =>
        obtain ⟨x, y, t, u, v, rfl, ht, hx, hy, hq⟩ := two _ h
        simp only [gString, fxv_some] at hq
        obtain ⟨r, A', hq, rfl⟩ := hq
        exact key _ _ _ rfl (fun _ => rfl) (unsafeString_run hR ht hq hx hy)
end Go.Ev
end
