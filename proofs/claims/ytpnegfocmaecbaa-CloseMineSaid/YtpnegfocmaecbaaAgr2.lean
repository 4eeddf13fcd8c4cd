/- Two digests are the same or not. -/
import Derived.Test.YtpnegfocmaecbaaAgr
namespace Go.Proofs.Ytpnegfocmaecbaa
open Go.RowKit

theorem digRow : (30 : TypeId) < Try.prog.types.size := of_decide_eq_true (by kernel_rfl)
theorem digWide : (match Try.prog.underlying 30 with | some (.array _ _) | some (.struct _) => true | _ => false) = true := by kernel_rfl
theorem digLaw : WideMaps.KeyLaw Try.prog 30 := deep_law_laid laid_out (m := 2) (by omega) digRow (by kernel_rfl) digWide
theorem digKey : Try.prog.keyType 30 = true := by kernel_rfl
theorem dkey_lit {d : List Int} (h : Dig d) : ∃ l, keyOf Try.prog 30 (dv d) = some l := by
  obtain ⟨n, hn⟩ := typesN
  have h1 := keyLits_dig (n + 1) h
  have l1 := h.1
  have hc : (dcells d).toList = d.map (Value.int .u8) := by simp [dcells]
  have hs : (dcells d).size = 8 := by rw [← Array.length_toList, hc]; simp [l1]
  have hf : (dv d).formed Try.prog 30 = true := by simp [Value.formed, Try.underlying30, digCells, hs]
  refine ⟨.string (keyBytes (d.map (Lit.int .u8))), ?_⟩
  unfold keyOf
  rw [Try.underlying30]
  simp only [digKey, hf, Bool.and_self, if_true, Value.cells, hc, hn, h1, Option.map_some]
theorem dv_inj {a b : List Int} (h : dv a = dv b) : a = b := by
  injection h with h
  have h := congrArg Array.toList h
  have hc : ∀ x : List Int, (dcells x).toList = x.map (Value.int .u8) := fun x => by simp [dcells]
  rw [hc, hc] at h
  refine (List.map_inj_right ?_).1 h
  intro p q hpq
  injection hpq
theorem dig_eql {a b : List Int} (ha : Dig a) (hb : Dig b) (w : World) : (binOp .eql 30 (dv a) (dv b)).run Try.prog w = .ok (.bool (decide (a = b))) w := by
  obtain ⟨la, hla⟩ := dkey_lit ha
  obtain ⟨lb, hlb⟩ := dkey_lit hb
  obtain ⟨r, hr, hiff⟩ := run_equal_deep (P := Try.prog) w (m := 2) (by omega) (k := 30) (by kernel_rfl) digWide hla hlb
  have hrd : r = decide (a = b) := by
    rw [Bool.eq_iff_iff, hiff, decide_eq_true_eq]
    constructor
    · intro e
      subst e
      exact dv_inj (digLaw.inj hla hlb)
    · intro e
      subst e
      exact Option.some.inj (hla.symm.trans hlb)
  simp only [binOp]
  rw [← hrd]
  simp [hr]
theorem dig_neq {a b : List Int} (ha : Dig a) (hb : Dig b) (w : World) : (binOp .neq 30 (dv a) (dv b)).run Try.prog w = .ok (.bool (!decide (a = b))) w := by
  obtain ⟨la, hla⟩ := dkey_lit ha
  obtain ⟨lb, hlb⟩ := dkey_lit hb
  obtain ⟨r, hr, hiff⟩ := run_equal_deep (P := Try.prog) w (m := 2) (by omega) (k := 30) (by kernel_rfl) digWide hla hlb
  have hrd : r = decide (a = b) := by
    rw [Bool.eq_iff_iff, hiff, decide_eq_true_eq]
    constructor
    · intro e
      subst e
      exact dv_inj (digLaw.inj hla hlb)
    · intro e
      subst e
      exact Option.some.inj (hla.symm.trans hlb)
  simp only [binOp]
  rw [← hrd]
  simp [hr]
theorem digGuard : Try.prog.eqGuardType Try.prog.depth 30 = false := by kernel_rfl
theorem Kx.refl {Q : Obj → Bool} {w : World} : Kx Q w w := ⟨rfl, rfl, rfl, Nat.le_refl _, fun _ _ h _ => h⟩
section
variable {w : World} {B gb mb : Nat} {L : List Ent} {KA SA A1 A2 : Option Addr} {kc sc c1 c2 n m pb ob vb : Nat} {ks : List (List Int)} {sigs : List Pc} {ps os : List Int} {pcs ocs vcs : Array Value} {wx wy : World}
theorem AG.stored (h : AG w B gb mb L KA SA A1 A2 kc sc c1 c2 n m pb ob vb ks sigs ps os pcs ocs vcs wx) {gg l cap : Nat} {xs : List Value} (hg : wx.ownsRow w.heap.size 4 1 (.slice (some ⟨gg, 0, none⟩) l cap) l xs) (k : Nat) (u : Value) :
    AG w B gb mb L KA SA A1 A2 kc sc c1 c2 n m pb ob vb ks sigs ps os pcs ocs vcs (wx.setCell ⟨gg, k, none⟩ u) := by
  obtain ⟨cs, t, fz, hh, rfl⟩ := own_row hg gg rfl
  exact h.kx (Kx.refl.setCell hh (by simp [isTy]) u) ((Below.refl _ _).setCell (hg.lt gg rfl).1 u)
theorem AG.drewN (h : AG w B gb mb L KA SA A1 A2 kc sc c1 c2 n m pb ob vb ks sigs ps os pcs ocs vcs wx) (q : Nat) : AG w B gb mb L KA SA A1 A2 kc sc c1 c2 n m pb ob vb ks sigs ps os pcs ocs vcs (wx.drewN q) := h.later (belowDrewN (Below.refl _ _) q)
theorem AG.drew (h : AG w B gb mb L KA SA A1 A2 kc sc c1 c2 n m pb ob vb ks sigs ps os pcs ocs vcs wx) : AG w B gb mb L KA SA A1 A2 kc sc c1 c2 n m pb ob vb ks sigs ps os pcs ocs vcs wx.drew := h.later ⟨rfl, rfl, rfl, Nat.le_refl _, fun _ _ => rfl⟩
end
theorem at7q (A : Option Addr) (n c i q : Nat) (l : List Bool) (w : World) (h : Sl Value.bool w A n l) (hi : i ≤ 100) : Calls Try.prog 7 #[.slice A n c, .int .i64 i] (w.drewN q) fun e w' => e = .returned (.bool (atB l i)) ∧ w' = w.drewN q := (at7 A n c i l _ (h.drewN q) hi).mono fun _ _ ⟨h1, h2⟩ => ⟨h1, h2.symm⟩
theorem step_append_ownG {P : Program} {ops : Array Oper} {o : Oper} {a : Act} {w : World} {K : Act → World → Prop} {Q : Exit → Act → World → Prop} {X : Prop}
    (hw : Region.wanted o (yielded ops a.tmps) = true) (s x : Operand) (t : TypeId) (hop : o.op = Op.call { callee := Callee.builtin Builtin.append, args := #[s, x], argTypes := #[t, t] })
    (base : Nat) (e : TypeId) (i : TypeInfo) (z : Value) (size bytes : Nat) (ht : P.underlying t = some (.slice e)) (hi : P.info? e = some i) (hz : i.zero = some z)
    (hsize : i.size = size) (hby : i.bytes = bytes) (hzs : z.cells.size = size) (hsz : 0 < size)
    (v : Value) (n : Nat) (xs : List Value) (hs : a.eval s = v) (hown : w.ownsRow base e size v n xs)
    (ad : Addr) (m c : Nat) (news : List Value) (hx : a.eval x = .slice (some ad) m c) (hl : news.length = m * size) (hnews : ∀ j u, news[j]? = some u → w.cell? (ad.add j) = some u) (h1 : ∀ u ∈ news, u.oneCell' = true)
    (h63 : n + m ≤ maxLen) (hbytes : (n + m) * bytes ≤ 140737488355328) (hbase : base ≤ w.heap.size)
    (hK : ∀ A' c' w', w'.ownsRow base e size (.slice A' (n + m) c') (n + m) (xs ++ news) → w.grownBy w' v.ownBlock → K (a.put o.dst (.slice A' (n + m) c')) w') :
    if Region.wanted o (yielded ops a.tmps) = true then Oper.wp P o a w K Q else X := by
  rw [if_pos hw]
  obtain ⟨v', w', hrun, h2, h3, _⟩ := run_append_own_at (P := P) w base t o.type e i z size bytes ht hi hz hsize hby hzs hsz v n xs hown ad m c news hl hnews h1 h63 hbytes hbase
  obtain ⟨A', c', rfl⟩ := own_sliceN h2
  unfold Oper.wp
  simp [execOp, hop, resolve, invoke, builtin, hs, hx, hrun, Result.andThen]
  exact hK _ _ _ h2 h3
theorem boolInfo : (Try.prog.info? 4).map (fun i => (i.zero, i.size, i.bytes)) = some (some (.bool false), 1, 1) := by kernel_rfl
def wantV (a : Int) (all sgn : Bool) : Int := if a ≠ 0 then a else if all = true then 28 else if sgn = true then 0 else 16
end Go.Proofs.Ytpnegfocmaecbaa
