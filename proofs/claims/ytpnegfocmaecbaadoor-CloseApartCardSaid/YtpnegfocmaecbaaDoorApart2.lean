/- Contracts: All and Agree without a verifier; what nil rules pay. -/
import Derived.Test.YtpnegfocmaecbaaDoorApart
namespace Go.Proofs.YtpnegfocmaecbaaDoor
open Go.RowKit
def allN (fr : List Bool) (n : Nat) : Int := if lackN fr n = [] then 0 else 16
set_option maxRecDepth 100000 in
set_option maxHeartbeats 1000000 in
theorem all24N (n kc sc fc : Nat) (KA SA FA : Option Addr) (m : List Int) (keys : List (List Int)) (fr : List Bool) (w : World) (hm : Dig m)
    (hk : Sln 8 digL w KA n keys) (hkd : ∀ k ∈ keys, Dig k) (hf : Sl Value.bool w FA n fr) (hn : n ≤ 100) (hn1 : 1 ≤ n) :
    Calls Tryd.prog 16 #[.nilIface, .slice KA n kc, dv m, .slice SA n sc, .slice FA n fc] w fun e w' => e = .returned (.int .i64 (allN fr n)) ∧ Below w.heap.size w w' := by
  obtain ⟨m0, m1, m2, m3, m4, m5, m6, m7, rfl⟩ := dig_parts hm
  have hb0 : Below w.heap.size w (w.alloc (.cells #[.int .u8 m0, .int .u8 m1, .int .u8 m2, .int .u8 m3, .int .u8 m4, .int .u8 m5, .int .u8 m6, .int .u8 m7] 41)) := (Below.refl _ _).alloc (Nat.le_refl _) _
  have HC := Lib.hid (missingN n kc n sc fc KA SA FA [m0, m1, m2, m3, m4, m5, m6, m7] keys fr _ hm (hk.below hb0) hkd (hf.below hb0) hn)
  have HB0 := Lib.hid hb0
  have n0 : ((n : Int) == 0) = false := by simp; omega
  have n2 : (n != n) = false := by simp
  clear hb0 hm hk hkd hf
  show Calls Tryd.prog _ #[_, _, .agg #[.int .u8 m0, .int .u8 m1, .int .u8 m2, .int .u8 m3, .int .u8 m4, .int .u8 m5, .int .u8 m6, .int .u8 m7], _, _] w _
  go_enter Tryd.func16, Tryd.ntmps16
  go_wp2_with fail
  refine HC.out.mono ?_
  rintro e w1 ⟨A1, c1, rfl, hb1⟩
  have HB1 : Hid (Below w.heap.size w w1) := HB0.out.trans (hb1.mono HB0.out.size)
  have HQ : Hid (∀ q : Nat, (lackN fr n).length = q → allN fr n = if q = 0 then 0 else 16) := fun q hq => by
    unfold allN
    by_cases h : lackN fr n = []
    · rw [if_pos h, if_pos (by rw [← hq, h]; rfl)]
    · rw [if_neg h, if_neg (by rw [← hq]; simpa using h)]
  clear HC hb1 HB0
  generalize hq : (lackN fr n).length = q
  have HQ' : Hid (allN fr n = if q = 0 then 0 else 16) := HQ.out q hq
  clear hq HQ
  by_cases h0 : q = 0
  · subst h0
    go_wp2_with fail
    go_ret
    exact ⟨by rw [HQ'.out]; rfl, HB1.out⟩
  · have h1 : 0 < q := by omega
    have h2 : decide (0 < (q : Int)) = true := by simp; omega
    go_wp2_with fail
    go_ret
    exact ⟨by rw [HQ'.out, if_neg h0]; rfl, HB1.out⟩
abbrev pv (ds : List Int) (A : Option Addr) (m c : Nat) : Value := .agg (dcells ds ++ #[.slice A m c])
theorem any_take {gone : List Bool} {k : Nat} {v : Bool} (h : gone[k]? = some v) : (gone.take (k + 1)).all id = ((gone.take k).all id && v) := by
  rw [take_snoc h]; simp [List.all_append]
set_option maxRecDepth 100000 in
set_option maxHeartbeats 1000000 in
theorem agreeN (keys : List (List Int)) (gone : List Bool) (ds : List Int) (A KA SA FA : Option Addr) (m c n kc sc fc : Nat) (pot : Int) (pays : List Int) (w : World) (hd : Dig ds) (hp : Sl (Value.int .i64) w A m pays) (hf : Fits pays) (hn : n ≤ 100) (hn1 : 1 ≤ n) (hmm : m ≤ 100) (h0 : addsS pot n pays = 0)
    (hk : Sln 8 digL w KA n keys) (hkd : ∀ k ∈ keys, Dig k) (hall : gone.all id = false) (hg : Sl Value.bool w FA n gone) :
    Calls Tryd.prog 8 #[.nilIface, pv ds A m c, .int .i64 pot, .slice KA n kc, .slice SA n sc, .slice FA n fc] w fun e w' => e = .returned (.int .i64 (allN gone n)) ∧ Below w.heap.size w w' := by
  have hd' := hd
  obtain ⟨d0, d1, d2, d3, d4, d5, d6, d7, rfl⟩ := dig_parts hd
  have hb0 : Below w.heap.size w (w.alloc (.cells #[.int .u8 d0, .int .u8 d1, .int .u8 d2, .int .u8 d3, .int .u8 d4, .int .u8 d5, .int .u8 d6, .int .u8 d7, .slice A m c] 43)) := (Below.refl _ _).alloc (Nat.le_refl _) _
  have hc := adds8 pot n A m c pays _ (hp.below hb0) hf
  rw [h0] at hc
  have HC := Lib.hid hc
  have HB0 := Lib.hid hb0
  have HD := Lib.hid hd'
  have HP := Lib.hid (hp.below hb0)
  have HF := Lib.hid hf
  have HK := Lib.hid (hk.below hb0)
  have HKD := Lib.hid hkd
  have HAL := Lib.hid hall
  have HG := Lib.hid (hg.below hb0)
  have HGL := Lib.hid hg.len
  have n2 : (n != n) = false := by simp
  have hni : (n : Int) ≤ 100 := by omega
  clear hb0 hd' hp h0 hc hk hkd hall hg hf
  show Calls Tryd.prog _ #[_, .agg #[.int .u8 d0, .int .u8 d1, .int .u8 d2, .int .u8 d3, .int .u8 d4, .int .u8 d5, .int .u8 d6, .int .u8 d7, .slice A m c], _, _, _, _] w _
  go_enter Tryd.func8, Tryd.ntmps8
  go_wp2_with fail
  refine HC.out.mono ?_
  rintro e w1 ⟨rfl, rfl⟩
  go_wp2_with fail
  go_loop [14, 16, 33] (fun s14 _ s33 => ∃ k : Nat, k ≤ n ∧ s33 = .int .i64 k ∧ s14 = .bool (!((gone.take k).all id))) (fun _ _ s33 => n - (intOf s33).toNat)
  case atStart => exact ⟨0, Nat.zero_le _, rfl, rfl⟩
  case round =>
    obtain ⟨k, hk, rfl, rfl⟩ := hrel
    by_cases hlt : k < n
    · obtain ⟨gbb, go, gv, rfl, hgb, qg, hgv⟩ := HG.out.get hlt
      have HA := Lib.hid (any_take hgv.out)
      generalize (gone.take k).all id = ga at HA ⊢
      cases ga <;> cases gv
      all_goals
        go_wp2_with fail
        go_round
        case rel => exact ⟨k + 1, by omega, by go_num, by rw [HA.out]; rfl⟩
        case measure => simp [intOf]; omega
    · obtain rfl : k = n := by omega
      have HA : Hid (gone.take k = gone) := List.take_of_length_le (by rw [HGL.out]; omega)
      rw [HA.out, HAL.out]
      go_wp2_with fail
      refine (payDigest8 [d0, d1, d2, d3, d4, d5, d6, d7] A m c pays _ HD.out HP.out HF.out (by omega)).mono ?_
      rintro e w1 ⟨rfl, hb1⟩
      have hb1' := hb1
      have HC2 := Lib.hid (all24N k kc sc fc KA SA FA (payD [d0, d1, d2, d3, d4, d5, d6, d7] pays) keys gone w1 (ofI_dig _) (HK.out.below hb1) HKD.out (HG.out.below hb1) hn hn1)
      have HB1 : Hid (Below w.heap.size w w1) := HB0.out.trans (hb1.mono HB0.out.size)
      clear hb1 hb1'
      go_wp2_with fail
      refine HC2.out.mono ?_
      rintro e w2 ⟨rfl, hb2⟩
      have HB2 : Hid (Below w.heap.size w w2) := HB1.out.trans (hb2.mono HB1.out.size)
      clear hb2 HC2 HB1
      go_wp2_with fail
      go_ret
      exact ⟨rfl, HB2.out⟩

theorem paysN (cs : Array Value) (pot : Int) (w : World) : Calls Tryd.prog 6 #[.pointer none, .agg cs, .int .i64 pot] w fun e w' => e = .returned (.tuple #[.slice none 0 0, .int .i64 1]) ∧ Below w.heap.size w w' := by
  go_enter Tryd.func6, Tryd.ntmps6
  go_wp2
  go_ret2
  exact ⟨rfl, (Below.refl _ _).alloc (Nat.le_refl _) _⟩
theorem step_app {P : Program} {ops : Array Oper} {o : Oper} {a : Act} {w : World} {K : Act → World → Prop} {Q : Exit → Act → World → Prop} {X : Prop} {t e : TypeId} {z : Value} {bytes : Nat} {α : Type} {f : α → Value} (T : ElemTy P t e z bytes) (hgd : o.guard = none) (s x : Operand)
    (ho : o.op = .call { callee := .builtin .append, args := #[s, x], argTypes := #[t, t] }) (hf : ∀ y, (f y).oneCell' = true)
    (base : Nat) (v : Value) (n : Nat) (xs : List α) (hs : a.eval s = v) (hown : w.ownsRow base e 1 v n (xs.map f))
    (A : Option Addr) (m c : Nat) (ys : List α) (hx : a.eval x = .slice A m c) (hr : Sl f w A m ys) (hA : A = none → c = 0)
    (h63 : n + m ≤ maxLen) (hbytes : (n + m) * bytes ≤ 140737488355328) (hbase : base ≤ w.heap.size)
    (h : ∀ A' c' w', w'.ownsRow base e 1 (.slice A' (n + m) c') (n + m) ((xs ++ ys).map f) → w.grownBy w' v.ownBlock → K (a.put o.dst (.slice A' (n + m) c')) w') :
    if Region.wanted o (yielded ops a.tmps) = true then Oper.wp P o a w K Q else X := by
  have hw : Region.wanted o (yielded ops a.tmps) = true := by simp [Region.wanted, hgd]
  rw [if_pos hw]
  obtain ⟨i, hi, hz, hs1, hby⟩ := T.info
  rcases A with _ | ad
  · have hc := hA rfl
    subst hc
    have hm : m = 0 := by
      rcases Nat.eq_zero_or_pos m with h0 | h0
      · exact h0
      · obtain ⟨b, off, hb, _⟩ := hr.at_ h0
        cases hb
    subst hm
    have hy : ys = [] := List.eq_nil_of_length_eq_zero hr.len
    subst hy
    obtain ⟨A', c', rfl⟩ := own_slice hown
    have hrun := run_append_owned_none (P := P) (w := w) base t o.type e i 1 T.sl hi _ n _ hown
    unfold Oper.wp
    simp [execOp, ho, resolve, invoke, builtin, hs, hx, hrun, Result.andThen]
    exact h A' c' w (by simpa using hown) (World.grownBy.refl w _)
  · have hnews : ∀ j u, (ys.map f)[j]? = some u → w.cell? (ad.add j) = some u := by
      intro j u hu
      rw [List.getElem?_map] at hu
      obtain ⟨y, hy, rfl⟩ := Option.map_eq_some_iff.1 hu
      have hj : j < m := by rw [← hr.len]; exact (List.getElem?_eq_some_iff.1 hy).1
      obtain ⟨b, off, hb, _, hc⟩ := hr.at_ (by omega)
      injection hb with hb
      subst hb
      have hcc := hc j y hy
      by_cases hj0 : j = 0
      · subst hj0; simpa [Addr.add] using hcc
      · simpa [Addr.add, hj0] using hcc
    obtain ⟨v', w', hrun, h2, h3, _⟩ := run_append_own_at (P := P) w base t o.type e i z 1 bytes T.sl hi hz hs1 hby (by rw [T.one]; rfl) (by omega) v n _ hown ad m c (ys.map f) (by simp [hr.len]) hnews (by intro u hu; obtain ⟨y, _, rfl⟩ := List.mem_map.1 hu; exact hf y) h63 hbytes hbase
    rw [← List.map_append] at h2
    obtain ⟨A', c', rfl⟩ := own_slice h2
    unfold Oper.wp
    simp [execOp, ho, resolve, invoke, builtin, hs, hx, hrun, Result.andThen]
    exact h A' c' w' h2 h3
theorem own_empty {α : Type} (f : α → Value) {W : World} {base g : Nat} {t : TypeId} (hg : W.heap[g]? = some (.cells #[] t (0, 0))) (hb : base ≤ g) : W.ownsRow base t 1 (.slice (some ⟨g, 0, none⟩) 0 0) 0 (([] : List α).map f) :=
  ⟨by simp, .inr ⟨g, 0, #[], rfl, hb, hg, Nat.le_refl _, by unfold maxLen; omega, by simp, by simp⟩⟩
theorem tyBools : ElemTy Tryd.prog 23 4 (.bool false) 1 := ElemTy.mk' Tryd.underlying23 (by kernel_rfl) rfl
theorem allocOld (w : World) (o : Obj) (k : Nat) (h : k < w.heap.size) : (w.alloc o).heap[k]? = w.heap[k]? := Below.heap_alloc w o k h
theorem own_typed {w w' : World} {base e sz n : Nat} {v : Value} {xs : List Value} {e' : TypeId} (h : w.ownsRow base e sz v n xs) (hk : ∀ (g : Nat) cs t fz, t ≠ e' → w.heap[g]? = some (.cells cs t fz) → w'.heap[g]? = some (.cells cs t fz)) (he : e ≠ e') : w'.ownsRow base e sz v n xs := by
  refine ⟨h.1, ?_⟩
  rcases h.2 with h2 | ⟨g, cap, cur, hv, hb, hh, r⟩
  · exact .inl h2
  · exact .inr ⟨g, cap, cur, hv, hb, hk g _ _ _ he hh, r⟩
theorem grown_typed {w w' : World} {base e sz n : Nat} {v : Value} {xs : List Value} (h : w.ownsRow base e sz v n xs) (hg : w.grownBy w' v.ownBlock) : ∀ (g : Nat) cs t fz, t ≠ e → w.heap[g]? = some (.cells cs t fz) → w'.heap[g]? = some (.cells cs t fz) := by
  intro g cs t fz ht hh
  refine (hg.block g (blk_lt hh) (fun he => ?_)).trans hh
  rcases h.2 with ⟨rfl, _⟩ | ⟨g', cap, cur, rfl, _, hc, _⟩
  · simp [Value.ownBlock] at he
  · have : g = g' := by simpa [Value.ownBlock] using he
    subst this
    rw [hc] at hh
    injection hh with hh
    injection hh with _ hh
    exact ht hh.symm
theorem step_app2 {P : Program} {ops : Array Oper} {o : Oper} {a : Act} {w : World} {K : Act → World → Prop} {Q : Exit → Act → World → Prop} {X : Prop} {t e : TypeId} {z : Value} {bytes : Nat} {α : Type} {f : α → Value} (T : ElemTy P t e z bytes) (hgd : o.guard = none) (s x : Operand)
    (ho : o.op = .call { callee := .builtin .append, args := #[s, x], argTypes := #[t, t] }) (hf : ∀ y, (f y).oneCell' = true)
    (base : Nat) (g : Nat) (hs : a.eval s = .slice (some ⟨g, 0, none⟩) 0 0) (hg : w.heap[g]? = some (.cells #[] e (0, 0))) (hbg : base ≤ g)
    (A : Option Addr) (m c : Nat) (ys : List α) (hx : a.eval x = .slice A m c) (hr : Sl f w A m ys) (hA : A = none → c = 0)
    (h63 : m ≤ 1000) (hby : bytes ≤ 100) (hbase : base ≤ w.heap.size)
    (h : ∀ A' c' w', w'.ownsRow base e 1 (.slice A' m c') m (ys.map f) → Below base w w' → (∀ (g : Nat) cs t fz, t ≠ e → w.heap[g]? = some (.cells cs t fz) → w'.heap[g]? = some (.cells cs t fz)) → K (a.put o.dst (.slice A' m c')) w') :
    if Region.wanted o (yielded ops a.tmps) = true then Oper.wp P o a w K Q else X := by
  have ho0 : w.ownsRow base e 1 (.slice (some ⟨g, 0, none⟩) 0 0) 0 (([] : List α).map f) := own_empty f hg hbg
  refine step_app T hgd s x ho hf base _ 0 [] hs ho0 A m c ys hx hr hA (by unfold maxLen; omega) (by have : (0 + m) * bytes ≤ 1000 * 100 := Nat.mul_le_mul (by omega) hby; omega) hbase ?_
  intro A' c' w' h1 h2
  rw [Nat.zero_add, List.nil_append] at h1
  rw [Nat.zero_add]
  exact h A' c' w' h1 ((Below.refl _ _).grown h2 hbase (fun k hk => (ho0.lt k hk).1)) (grown_typed ho0 h2)
theorem alloc_at {W : World} {o : Obj} {g : Nat} (hg : W.heap.size = g) : (W.alloc o).heap[g]? = some o := by subst hg; exact heap_alloc_new W o
theorem alloc_at2 {W : World} {o o' : Obj} {g : Nat} (hg : W.heap.size = g) : ((W.alloc o).alloc o').heap[g]? = some o := (allocOld _ _ _ (by subst hg; simp)).trans (alloc_at hg)
end Go.Proofs.YtpnegfocmaecbaaDoor
