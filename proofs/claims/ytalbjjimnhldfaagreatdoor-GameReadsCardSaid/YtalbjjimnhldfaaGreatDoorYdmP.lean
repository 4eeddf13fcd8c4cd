/- Moves out of bytes: what is told of the document's DecodeMove is so. -/
import Derived.Test.YtalbjjimnhldfaaGreatDoorYdc
set_option maxRecDepth 100000
namespace Go.Proofs.YtalbjjimnhldfaaGreatDoor
open Go.Ev
theorem g_decM2 (a : SA) (xs : List Int) (hx : Sli (Value.int .u8) 1 a.n a.o a.l a.k a.c xs) (hb : Byts8 xs) (hl : a.l ≤ 100000) : G_decM2 a xs := by
  have fl := hx.flat
  have f0 := flatL_nil
  have hlen : xs.length = a.l := by have := hx.len; omega
  have hri : ∀ {p e m : Int}, 0 ≤ p → p ≤ a.l → 0 ≤ m → m < 18446744073709551616 → RI ⟨a, p, e, m⟩ xs := fun h0 h1 h2 h3 => ⟨hx, hb, h0, h1, h2, h3⟩
  have hin : ∀ {p e m : Int} {r : RR}, 0 ≤ p → p ≤ a.l → 0 ≤ m → r = rdC xs p e m → 0 ≤ r.n ∧ r.n ≤ m ∧ 0 ≤ r.at_ ∧ r.at_ ≤ a.l := fun h0 h1 h2 h3 => by rw [h3, ← hlen]; exact rdC_in hb h0 (by omega) h2
  have err : ∀ e' : Int, (decM xs).e = e' → ∀ ys : List Int, Sli (Value.int .u8) 1 a.n a.o a.l a.k a.c ys → (decM ys).e = e' := fun e' h1 ys hy => by rw [Sli.uniqI hy hx]; exact h1
  have fin : ∀ (s : SN) (t : Bool) (zs : List Int) (d : D8), LC s zs → decM xs = ⟨0, t, zs, d⟩ → ∀ ys : List Int, Sli (Value.int .u8) 1 a.n a.o a.l a.k a.c ys → ∃ zs : List Int, LC s zs ∧ decM ys = ⟨0, t, zs, d⟩ := fun s t zs d h1 h2 ys hy => by rw [Sli.uniqI hy hx]; exact ⟨zs, h1, h2⟩
  rw [vc_decM2]
  refine ⟨⟨trivial, ⟨xs, hri (by decide) (by omega) (by decide) (by decide)⟩, by omega⟩, ?_, fun r h => ?_, trivial⟩
  · repeat' first
      | with_reducible apply And.intro
      | exact trivial
      | exact rfl
      | assumption
  have h : r = rdC xs 0 0 1 := h xs (hri (by decide) (by omega) (by decide) (by decide))
  obtain ⟨n0, n1, n2, n3⟩ := hin (by decide) (by omega) (by decide) h
  refine ⟨fun h1 => ?_, fun h1 => ?_⟩
  · have hdec := decM_t (bs := xs) (by rw [← h]; exact h1)
    rw [← h] at hdec
    refine ⟨⟨trivial, ⟨xs, hri n2 n3 (by decide) (by decide)⟩, by omega⟩, ?_, fun q hq => ?_, trivial⟩
    · repeat' first
        | with_reducible apply And.intro
        | exact trivial
        | exact rfl
        | assumption
    have hq : q = rdC xs r.at_ r.e 18446744073709551615 := hq xs (hri n2 n3 (by decide) (by decide))
    obtain ⟨m0, m1, m2, m3⟩ := hin n2 n3 (by decide) hq
    rw [← hq] at hdec
    refine ⟨⟨trivial, ⟨m0, by omega⟩, trivial⟩, ⟨⟨rfl, trivial⟩, trivial⟩, fun _ _ => ⟨fun he z hz => ⟨fun hlt => ⟨⟨5⟩, ⟨by decide, err 5 (by rw [hdec, he]; exact endC_long (by omega))⟩, ?_⟩, fun hge => ⟨fun h => absurd he h, fun _ => ⟨⟨true, ⟨true, 0, 0, []⟩, frm q.n⟩, fin _ _ [] _ .none (by rw [hdec, he, endC_ok (by omega)]), ?_⟩⟩⟩, fun he => ⟨fun _ => ⟨⟨q.e⟩, ⟨he, err _ (by rw [hdec]; exact endC_err he)⟩, ?_⟩, fun h => absurd he h⟩⟩, trivial⟩
    · repeat' first
        | with_reducible apply And.intro
        | exact trivial
        | exact rfl
        | assumption
    · repeat' first
        | with_reducible apply And.intro
        | exact trivial
        | exact rfl
        | assumption
    · repeat' first
        | with_reducible apply And.intro
        | exact trivial
        | exact rfl
        | assumption
  have hdec := decM_f (bs := xs) (by rw [← h]; exact h1)
  refine ⟨⟨trivial, ⟨xs, hri n2 n3 (by decide) (by decide)⟩, by omega⟩, ?_, fun q hq => ?_, trivial⟩
  · repeat' first
      | with_reducible apply And.intro
      | exact trivial
      | exact rfl
      | assumption
  have hq0 : q = rdC xs r.at_ r.e 4 := hq xs (hri n2 n3 (by decide) (by decide))
  have hq : q = q2C xs := by rw [hq0, h]; rfl
  obtain ⟨m0, m1, m2, m3⟩ := hin n2 n3 (by decide) hq0
  have bq : (q2C xs).n ≤ 4 := by rw [← hq]; exact m1
  refine ⟨⟨⟨q.at_, q.e, q.n, 0, ⟨true, 0, 0, []⟩⟩, ⟨⟨⟨by show (0 : Int) ≤ 0; decide, m0⟩, by show q.n = _; rw [hq], m2, m3⟩, [], .none, rfl, ?_⟩, ?_, ?_⟩, ?_⟩
  · show wsC xs (q2C xs).n.toNat (q2C xs).at_ (q2C xs).e = ⟨(wsC xs (q.n - 0).toNat q.at_ q.e).at_, (wsC xs (q.n - 0).toNat q.at_ q.e).e, [] ++ (wsC xs (q.n - 0).toNat q.at_ q.e).ws⟩
    rw [Int.sub_zero, hq]; rfl
  · repeat' first
      | with_reducible apply And.intro
      | exact trivial
      | exact rfl
      | assumption
  · rintro ⟨p, e, n, i, v⟩ ⟨⟨⟨hi0, hi1⟩, hn, hp0, hp1⟩, ys, hv, hyl, hT⟩
    dsimp only at hi0 hi1 hn hp0 hp1 hv hyl hT ⊢
    have fv := hv.flat
    refine ⟨fun hlt => ⟨fun he => ⟨⟨trivial, ⟨xs, hri hp0 hp1 (by decide) (by decide)⟩, by omega⟩, ?_, fun w hw => ?_, trivial⟩, fun he => ?_⟩, fun hge => ?_⟩
    · repeat' first
        | with_reducible apply And.intro
        | exact trivial
        | exact rfl
        | assumption
    · have hw : w = wdC xs p e := hw xs (hri hp0 hp1 (by decide) (by decide))
      obtain ⟨k0, k1⟩ := wdC_in (e := e) hb hp0 (by omega)
      rw [← hw] at k0 k1
      refine ⟨fun hnn => ⟨by simp, fun vs hvs => ⟨fun h => absurd h (by decide), fun _ => ⟨by unfold Few; omega, fun z hz => ?_⟩⟩⟩, fun hnn => ⟨by simp, fun vs hvs => ⟨⟨rfl, by have := hv.he.len; have := hv.l; omega, rfl, hv.le, by unfold Few; have := hv.l; omega, by rw [hvs, lwin_one]; exact oneK_one _ _⟩, fun l' k' hl' hk' z hz => ?_⟩⟩⟩
      · rw [wrap_u64] at hz
        have hz : z = i + 1 := by omega
        obtain ⟨rfl, _⟩ := hv.nil hnn
        rw [lwin_one] at hvs
        subst hvs
        have h1 := LC.one w.w
        have f1 := h1.flat
        refine ⟨⟨w.at_, w.e, n, z, ⟨false, 1, 1, _⟩⟩, ⟨⟨⟨by show 0 ≤ z; omega, by show z ≤ n; omega⟩, hn, k0, by show w.at_ ≤ _; omega⟩, [w.w], h1, by show ((1 : Nat) : Int) = z; simp at hyl; omega, ws_more he hlt hw hz hT⟩, by show (n - z).toNat < (n - i).toNat; omega, ?_⟩
        repeat' first
          | with_reducible apply And.intro
          | exact trivial
          | exact rfl
          | assumption
      · rw [wrap_u64] at hz
        have hz : z = i + 1 := by omega
        rw [lwin_one] at hvs
        subst hvs
        have h1 := hv.snoc w.w hl' hk'
        have f1 := h1.flat
        refine ⟨⟨w.at_, w.e, n, z, ⟨false, l', k', _⟩⟩, ⟨⟨⟨by show 0 ≤ z; omega, by show z ≤ n; omega⟩, hn, k0, by show w.at_ ≤ _; omega⟩, ys ++ [w.w], h1, by show (((ys ++ [w.w]).length : Nat) : Int) = z; simp; omega, ws_more he hlt hw hz hT⟩, by show (n - z).toNat < (n - i).toNat; omega, ?_⟩
        repeat' first
          | with_reducible apply And.intro
          | exact trivial
          | exact rfl
          | assumption
    · have hE := ws_end (.inl he) hT
      refine ⟨⟨p, e, n, i, v⟩, ⟨⟨hp0, hp1⟩, by rw [hE]; exact hv, by rw [hE], by rw [hE]⟩, ?_⟩
      repeat' first
        | with_reducible apply And.intro
        | exact trivial
        | exact rfl
        | assumption
    · have hE := ws_end (.inr hge) hT
      refine ⟨⟨p, e, n, i, v⟩, ⟨⟨hp0, hp1⟩, by rw [hE]; exact hv, by rw [hE], by rw [hE]⟩, ?_⟩
      repeat' first
        | with_reducible apply And.intro
        | exact trivial
        | exact rfl
        | assumption
  rintro ⟨p, e, n, i, v⟩ ⟨⟨hp0, hp1⟩, hv, hat, hee⟩
  dsimp only at hp0 hp1 hv hat hee ⊢
  have fv := hv.flat
  rw [← hat, ← hee] at hdec
  refine ⟨fun he z hz => ⟨fun hlt => ⟨⟨5⟩, ⟨by decide, err 5 (by rw [hdec, he]; exact endC_long (by omega))⟩, ?_⟩, fun hge => ⟨fun h => absurd he h, fun _ => ⟨⟨false, v, d80⟩, fin _ _ _ _ hv (by rw [hdec, he, endC_ok (by omega)]), ?_⟩⟩⟩, fun he => ⟨fun _ => ⟨⟨e⟩, ⟨he, err _ (by rw [hdec]; exact endC_err he)⟩, ?_⟩, fun h => absurd he h⟩⟩
  · repeat' first
      | with_reducible apply And.intro
      | exact trivial
      | exact rfl
      | assumption
  · repeat' first
      | with_reducible apply And.intro
      | exact trivial
      | exact rfl
      | assumption
  · repeat' first
      | with_reducible apply And.intro
      | exact trivial
      | exact rfl
      | assumption
theorem s_decM2 : SpecOK Tryz.prog S_decM2.spec := fun a K hp hq => by
  obtain ⟨⟨xs, hx, hb⟩, hl⟩ := hp
  exact specD_at (an := [some (la_decM2 a xs)]) envOK (cwN_ok (fun _ h => cwD_ok s_read1 (cwD_ok s_word1 (cwD_ok s_dfrom h))) 2) (fun _ => g_decM2 a xs hx hb hl) K ⟨⟨xs, hx, hb⟩, hl⟩ hq
end Go.Proofs.YtalbjjimnhldfaaGreatDoor
