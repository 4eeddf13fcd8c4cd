/- The evaluator: its tries and lists; how abstract values and memory relate to the model's. -/
import Derived.Test.YtamjbnfmpfgjcaaGreatDoorEvB
import Derived.Laws.Sem
import Derived.Below
namespace Go.Ev

theorem ob_some {α β : Type} {x : Option α} {f : α → Option β} {y : β} : ob x f = some y ↔ ∃ v, x = some v ∧ f v = some y := by
  cases x <;> simp [ob]
theorem bt_some {β : Type} {b : Bool} {x : Option β} {y : β} : bt b x = some y ↔ b = true ∧ x = some y := by
  cases b <;> simp [bt]

/- Tries. -/
theorem half_eq {i j : Nat} (h : Nat.beq (Nat.mod i 2) 0 = Nat.beq (Nat.mod j 2) 0) : Nat.div i 2 = Nat.div j 2 ↔ i = j := by
  have hi : Nat.mod i 2 = i % 2 := rfl
  have hj : Nat.mod j 2 = j % 2 := rfl
  have di : Nat.div i 2 = i / 2 := rfl
  have dj : Nat.div j 2 = j / 2 := rfl
  rw [hi, hj] at h
  rw [di, dj]
  rcases Nat.mod_two_eq_zero_or_one i with a | a <;> rcases Nat.mod_two_eq_zero_or_one j with b | b <;> rw [a, b] at h
  · omega
  · exact absurd h (by decide)
  · exact absurd h (by decide)
  · omega
theorem half_ne {i j : Nat} (h : Nat.beq (Nat.mod i 2) 0 ≠ Nat.beq (Nat.mod j 2) 0) : i ≠ j := fun e => h (by rw [e])
theorem get_succ {α : Type} (l : T α) (v : Option α) (r : T α) (k : Nat) : (T.n l v r).get (k + 1) = (Bool.rec (r.get (Nat.div k 2)) (l.get (Nat.div k 2)) (Nat.beq (Nat.mod k 2) 0) : Option α) := rfl
theorem sing_succ {α : Type} (x : α) (f k : Nat) : T.sing x (f + 1) (k + 1) = (Bool.rec (T.n .e none (T.sing x f (Nat.div k 2))) (.n (T.sing x f (Nat.div k 2)) none .e) (Nat.beq (Nat.mod k 2) 0) : T α) := rfl
theorem set_succ {α : Type} (l : T α) (v : Option α) (r : T α) (k : Nat) (x : α) : (T.n l v r).set (k + 1) x = (Bool.rec (T.n l v (r.set (Nat.div k 2) x)) (.n (l.set (Nat.div k 2) x) v r) (Nat.beq (Nat.mod k 2) 0) : T α) := rfl
theorem get_sing {α : Type} (x : α) : ∀ (f k i : Nat), k < f → (T.sing x f k).get i = if i = k then some x else none := by
  intro f
  induction f with
  | zero => intro k i h; omega
  | succ f ih =>
    intro k i h
    cases k with
    | zero =>
      cases i with
      | zero => rfl
      | succ i =>
        show (T.n .e (some x) .e).get (i + 1) = _
        rw [get_succ]
        cases Nat.beq (Nat.mod i 2) 0 <;> rfl
    | succ k =>
      have hk : Nat.div k 2 < f := by have : Nat.div k 2 = k / 2 := rfl; omega
      rw [sing_succ]
      cases hb : Nat.beq (Nat.mod k 2) 0 with
      | false =>
        cases i with
        | zero => rfl
        | succ i =>
          rw [get_succ]
          cases hc : Nat.beq (Nat.mod i 2) 0 with
          | true => show none = _; rw [if_neg]; intro e; exact half_ne (i := i) (j := k) (by rw [hb, hc]; decide) (by omega)
          | false => show (T.sing x f _).get _ = _; rw [ih _ _ hk]; have := half_eq (i := i) (j := k) (by rw [hb, hc]); simp only [this, Nat.add_right_cancel_iff]
      | true =>
        cases i with
        | zero => rfl
        | succ i =>
          rw [get_succ]
          cases hc : Nat.beq (Nat.mod i 2) 0 with
          | false => show none = _; rw [if_neg]; intro e; exact half_ne (i := i) (j := k) (by rw [hb, hc]; decide) (by omega)
          | true => show (T.sing x f _).get _ = _; rw [ih _ _ hk]; have := half_eq (i := i) (j := k) (by rw [hb, hc]); simp only [this, Nat.add_right_cancel_iff]
theorem get_set {α : Type} (x : α) : ∀ (t : T α) (k i : Nat), (t.set k x).get i = if i = k then some x else t.get i := by
  intro t
  induction t with
  | e => intro k i; show (T.sing x (k + 1) k).get i = _; rw [get_sing _ _ _ _ (Nat.lt_succ_self k)]; rfl
  | n l v r ihl ihr =>
    intro k i
    cases k with
    | zero => cases i with
      | zero => rfl
      | succ i => rfl
    | succ k =>
      rw [set_succ]
      cases hb : Nat.beq (Nat.mod k 2) 0 with
      | false =>
        cases i with
        | zero => rfl
        | succ i =>
          rw [get_succ, get_succ]
          cases hc : Nat.beq (Nat.mod i 2) 0 with
          | true => show l.get _ = _; rw [if_neg]; intro e; exact half_ne (i := i) (j := k) (by rw [hb, hc]; decide) (by omega)
          | false => show (r.set _ x).get _ = if _ then _ else r.get _; rw [ihr]; have := half_eq (i := i) (j := k) (by rw [hb, hc]); simp only [this, Nat.add_right_cancel_iff]
      | true =>
        cases i with
        | zero => rfl
        | succ i =>
          rw [get_succ, get_succ]
          cases hc : Nat.beq (Nat.mod i 2) 0 with
          | false => show r.get _ = _; rw [if_neg]; intro e; exact half_ne (i := i) (j := k) (by rw [hb, hc]; decide) (by omega)
          | true => show (l.set _ x).get _ = if _ then _ else l.get _; rw [ihl]; have := half_eq (i := i) (j := k) (by rw [hb, hc]); simp only [this, Nat.add_right_cancel_iff]

/- Lists. -/
theorem lget_eq {α : Type} : ∀ (l : List α) (k : Nat), lget l k = l[k]? := by
  intro l
  induction l with
  | nil => intro k; rfl
  | cons x l ih => intro k; cases k with
    | zero => rfl
    | succ k => show lget l k = _; rw [ih]; simp
theorem ocons_some {α : Type} {x : α} {o : Option (List α)} {r : List α} : ocons x o = some r ↔ ∃ l, o = some l ∧ r = x :: l := by
  simp only [ocons, ob_some, Option.some.injEq]
  constructor
  · rintro ⟨v, h, e⟩; exact ⟨v, h, e.symm⟩
  · rintro ⟨v, h, e⟩; exact ⟨v, h, e.symm⟩
theorem ldrop_some {α : Type} : ∀ (n : Nat) (l r : List α), ldrop n l = some r → r = l.drop n ∧ n ≤ l.length := by
  intro n
  induction n with
  | zero => intro l r h; simp only [ldrop] at h; cases h; simp
  | succ n ih => intro l r h; cases l with
    | nil => cases h
    | cons x l => have := ih l r h; simp; exact this
theorem ltake_some {α : Type} : ∀ (n : Nat) (l r : List α), ltake n l = some r → r = l.take n ∧ n ≤ l.length := by
  intro n
  induction n with
  | zero => intro l r h; simp only [ltake] at h; cases h; simp
  | succ n ih => intro l r h; cases l with
    | nil => cases h
    | cons x l =>
      have h' : ocons x (ltake n l) = some r := h
      obtain ⟨m, hm, rfl⟩ := ocons_some.1 h'
      have := ih l m hm; simp; exact this
theorem lsub_some {α : Type} {l r : List α} {off n : Nat} (h : lsub l off n = some r) : r = (l.drop off).take n ∧ off + n ≤ l.length := by
  simp only [lsub, ob_some] at h
  obtain ⟨m, hm, h⟩ := h
  obtain ⟨rfl, h1⟩ := ldrop_some _ _ _ hm
  obtain ⟨rfl, h2⟩ := ltake_some _ _ _ h
  simp at h2
  exact ⟨rfl, by omega⟩
theorem lhead_some {α : Type} : ∀ (xs l r : List α), lhead xs l = some r → r = xs ++ l.drop xs.length ∧ xs.length ≤ l.length := by
  intro xs
  induction xs with
  | nil => intro l r h; simp only [lhead] at h; cases h; simp
  | cons x xs ih => intro l r h; cases l with
    | nil => cases h
    | cons y l =>
      have h' : ocons x (lhead xs l) = some r := h
      obtain ⟨m, hm, rfl⟩ := ocons_some.1 h'
      have := ih l m hm; simp; exact this
theorem lover_some {α : Type} (xs : List α) : ∀ (off : Nat) (l r : List α), lover xs off l = some r → r = l.take off ++ (xs ++ l.drop (off + xs.length)) ∧ off + xs.length ≤ l.length := by
  intro off
  induction off with
  | zero => intro l r h; have := lhead_some xs l r h; simpa using this
  | succ n ih => intro l r h; cases l with
    | nil => cases h
    | cons y l =>
      have h' : ocons y (lover xs n l) = some r := h
      obtain ⟨m, hm, rfl⟩ := ocons_some.1 h'
      obtain ⟨rfl, h2⟩ := ih l m hm
      refine ⟨?_, by simp; omega⟩
      rw [show n + 1 + xs.length = (n + xs.length) + 1 by omega]
      simp
theorem lset_some {α : Type} (y : α) : ∀ (l : List α) (k : Nat) (r : List α), lset y l k = some r → r = l.set k y ∧ k < l.length := by
  intro l
  induction l with
  | nil => intro k r h; cases h
  | cons x l ih => intro k r h; cases k with
    | zero => cases h; simp
    | succ k =>
      have h' : ocons x (lset y l k) = some r := h
      obtain ⟨m, hm, rfl⟩ := ocons_some.1 h'
      have := ih k m hm; simp; exact this
theorem ldel_eq {α : Type} : ∀ (l : List α) (k : Nat), ldel l k = l.eraseIdx k := by
  intro l
  induction l with
  | nil => intro k; rfl
  | cons x l ih => intro k; cases k with
    | zero => rfl
    | succ k => show x :: ldel l k = _; rw [ih]; rfl
theorem lenB_iff {α : Type} : ∀ (l : List α) (n : Nat), lenB l n = true ↔ l.length = n := by
  intro l
  induction l with
  | nil => intro n; cases n with
    | zero => exact ⟨fun _ => rfl, fun _ => rfl⟩
    | succ n => exact ⟨fun h => (by cases h), fun h => (by cases h)⟩
  | cons x l ih => intro n; cases n with
    | zero => exact ⟨fun h => (by cases h), fun h => (by cases h)⟩
    | succ n => show lenB l n = true ↔ _; rw [ih]; simp
theorem omap_cons {α β : Type} {f : α → Option β} {x : α} {l : List α} {r : List β} : omap f (x :: l) = some r ↔ ∃ y ys, f x = some y ∧ omap f l = some ys ∧ r = y :: ys := by
  show ob (f x) (fun y => ocons y (omap f l)) = some r ↔ _
  simp only [ob_some, ocons_some]
  constructor
  · rintro ⟨y, h, ys, h2, rfl⟩; exact ⟨y, ys, h, h2, rfl⟩
  · rintro ⟨y, ys, h, h2, rfl⟩; exact ⟨y, h, ys, h2, rfl⟩
theorem omap_nil {α β : Type} {f : α → Option β} {r : List β} : omap f [] = some r ↔ r = [] := by
  show some [] = some r ↔ _
  simp [eq_comm]
theorem lall_iff {α : Type} {f : α → Bool} : ∀ {l : List α}, lall f l = true ↔ ∀ x ∈ l, f x = true := by
  intro l
  induction l with
  | nil => simp [lall]
  | cons x l ih =>
    show (Bool.rec false (lall f l) (f x) : Bool) = true ↔ _
    cases h : f x <;> simp [h, ih]
theorem blt_iff {a b : Nat} : Nat.blt a b = true ↔ a < b := by simp [Nat.blt_eq]
theorem bleIff {a b : Nat} : Nat.ble a b = true ↔ a ≤ b := by rw [Nat.ble_eq]
theorem beqIff {a b : Nat} : Nat.beq a b = true ↔ a = b := by rw [Nat.beq_eq]
theorem fnat_eq {α : Type} (n : Nat) (k : Nat → α) : fnat n k = k n := by cases n <;> rfl
theorem fint_eq {α : Type} (n : Int) (k : Int → α) : fint n k = k n := by
  cases n with
  | ofNat m => exact fnat_eq m fun m => k (.ofNat m)
  | negSucc m => exact fnat_eq m fun m => k (.negSucc m)
theorem boolV_eq (b : Bool) : boolV b = some (.bool b) := by cases b <;> rfl
theorem natV_eq (k : IntKind) (n : Nat) : natV k n = some (.int k (.ofNat n)) := fnat_eq n _
theorem fval_eq (v : Value) : fval v = some v := by
  cases v with
  | int k n => exact fint_eq n fun n => some (Value.int k n)
  | bool b => exact boolV_eq b
  | _ => rfl
theorem bnot_eq (b : Bool) : bnot b = !b := by cases b <;> rfl

/- How values relate: by what each abstract place stands for: a block, and how much more capacity its slices have. -/
abbrev Sg := Nat → Option (Nat × Nat)
mutual
inductive VR (σ : Sg) : Value → Value → Prop
  | flat {v : Value} : flat v = true → VR σ v v
  | ptr {i b d o : Nat} : σ i = some (b, d) → VR σ (.pointer (some ⟨i, o, none⟩)) (.pointer (some ⟨b, o, none⟩))
  | slice {i b d o l c : Nat} : σ i = some (b, d) → VR σ (.slice (some ⟨i, o, none⟩) l c) (.slice (some ⟨b, o, none⟩) l (c + d))
  | map {i b d : Nat} : σ i = some (b, d) → VR σ (.map (some i)) (.map (some b))
  | func {fn : Fn} {f f' c c' : List Value} : VRL σ f f' → VRL σ c c' → VR σ (.func fn ⟨f⟩ ⟨c⟩) (.func fn ⟨f'⟩ ⟨c'⟩)
  | iface {t : TypeId} {v v' : Value} : VR σ v v' → VR σ (.iface t v) (.iface t v')
  | agg {c c' : List Value} : VRL σ c c' → VR σ (.agg ⟨c⟩) (.agg ⟨c'⟩)
  | tuple {c c' : List Value} : VRL σ c c' → VR σ (.tuple ⟨c⟩) (.tuple ⟨c'⟩)
inductive VRL (σ : Sg) : List Value → List Value → Prop
  | nil : VRL σ [] []
  | cons {v v' : Value} {l l' : List Value} : VR σ v v' → VRL σ l l' → VRL σ (v :: l) (v' :: l')
end
/-- From below a bound nothing changes. -/
def Ext (N : Nat) (σ σ' : Sg) : Prop := ∀ i, i < N → σ' i = σ i
theorem Ext.refl (N : Nat) (σ : Sg) : Ext N σ σ := fun _ _ => rfl
def Sub (σ σ' : Sg) : Prop := ∀ i p, σ i = some p → σ' i = some p
mutual
theorem VR.sub {σ σ' : Sg} (h : Sub σ σ') : ∀ {v v' : Value}, VR σ v v' → VR σ' v v'
  | _, _, .flat e => .flat e
  | _, _, .ptr e => .ptr (h _ _ e)
  | _, _, .slice e => .slice (h _ _ e)
  | _, _, .map e => .map (h _ _ e)
  | _, _, .func a b => .func (VRL.sub h a) (VRL.sub h b)
  | _, _, .iface a => .iface (VR.sub h a)
  | _, _, .agg a => .agg (VRL.sub h a)
  | _, _, .tuple a => .tuple (VRL.sub h a)
theorem VRL.sub {σ σ' : Sg} (h : Sub σ σ') : ∀ {l l' : List Value}, VRL σ l l' → VRL σ' l l'
  | _, _, .nil => .nil
  | _, _, .cons a b => .cons (VR.sub h a) (VRL.sub h b)
end
section
variable {σ : Sg}
theorem VR.of_flat {v v' : Value} (h : VR σ v v') (hf : Ev.flat v = true) : v' = v := by
  cases h <;> first | rfl | (simp [Ev.flat] at hf; done)
theorem VRL.of_flats {l l' : List Value} (h : VRL σ l l') (hf : flats l = true) : l' = l := by
  unfold flats at hf
  rw [lall_iff] at hf
  induction l generalizing l' with
  | nil => cases h; rfl
  | cons v l ih =>
    cases h with
    | cons a b => rw [a.of_flat (hf v (by simp)), ih b (fun x hx => hf x (by simp [hx]))]
theorem VRL.refl_flats {l : List Value} (hf : flats l = true) : VRL σ l l := by
  unfold flats at hf
  rw [lall_iff] at hf
  induction l with
  | nil => exact .nil
  | cons v l ih => exact .cons (.flat (hf v (by simp))) (ih fun x hx => hf x (by simp [hx]))
theorem VR.of_flat2 {v v' : Value} (h : VR σ v v') (hf : flat2 v = true) : v' = v := by
  cases h with
  | agg a => have := a.of_flats hf; rw [this]
  | flat e => rfl
  | _ => simp [flat2, Ev.flat] at hf
theorem VR.refl_flat2 {v : Value} (hf : flat2 v = true) : VR σ v v := by
  unfold flat2 at hf
  split at hf
  · rename_i c; obtain ⟨c⟩ := c; exact .agg (.refl_flats hf)
  · exact .flat hf
theorem VRL.length {l l' : List Value} (h : VRL σ l l') : l'.length = l.length := by
  induction l generalizing l' with
  | nil => cases h; rfl
  | cons v l ih => cases h with | cons a b => simp [ih b]
theorem VRL.get {l l' : List Value} (h : VRL σ l l') {k : Nat} {v : Value} (hk : l[k]? = some v) : ∃ v', l'[k]? = some v' ∧ VR σ v v' := by
  induction l generalizing l' k with
  | nil => simp at hk
  | cons x l ih =>
    cases h with
    | cons a b =>
      cases k with
      | zero => simp at hk; subst hk; exact ⟨_, rfl, a⟩
      | succ k => simp at hk; simpa using ih b hk
theorem VRL.append {l l' m m' : List Value} (h : VRL σ l l') (g : VRL σ m m') : VRL σ (l ++ m) (l' ++ m') := by
  induction l generalizing l' with
  | nil => cases h; exact g
  | cons x l ih => cases h with | cons a b => exact .cons a (ih b)
theorem VRL.take {l l' : List Value} (h : VRL σ l l') (n : Nat) : VRL σ (l.take n) (l'.take n) := by
  induction l generalizing l' n with
  | nil => cases h; simp; exact .nil
  | cons x l ih => cases h with
    | cons a b => cases n with
      | zero => simp; exact .nil
      | succ n => simp; exact .cons a (ih b n)
theorem VRL.drop {l l' : List Value} (h : VRL σ l l') (n : Nat) : VRL σ (l.drop n) (l'.drop n) := by
  induction l generalizing l' n with
  | nil => cases h; simp; exact .nil
  | cons x l ih => cases h with
    | cons a b => cases n with
      | zero => simp; exact .cons a b
      | succ n => simp; exact ih b n
theorem VR.cells {v v' : Value} (h : VR σ v v') : VRL σ (cellsA v) v'.cells.toList := by
  cases h with
  | agg a => exact a
  | flat e => cases v <;> first | (simp [Ev.flat] at e; done) | exact .cons (.flat e) .nil
  | ptr e => exact .cons (.ptr e) .nil
  | slice e => exact .cons (.slice e) .nil
  | map e => exact .cons (.map e) .nil
  | func a b => exact .cons (.func a b) .nil
  | iface a => exact .cons (.iface a) .nil
  | tuple a => exact .cons (.tuple a) .nil
theorem VR.oneCell {v v' : Value} (h : VR σ v v') : v'.oneCell = v.oneCell := by cases h <;> rfl
theorem VRL.oneCells {l l' : List Value} (h : VRL σ l l') (hf : lall Value.oneCell l = true) : ∀ x ∈ l', x.oneCell = true := by
  rw [lall_iff] at hf
  induction l generalizing l' with
  | nil => cases h; simp
  | cons v l ih =>
    cases h with
    | cons a b =>
      intro x hx
      rcases List.mem_cons.1 hx with rfl | hx
      · rw [a.oneCell]; exact hf v (by simp)
      · exact ih b (fun x hx => hf x (by simp [hx])) x hx
end
end Go.Ev
