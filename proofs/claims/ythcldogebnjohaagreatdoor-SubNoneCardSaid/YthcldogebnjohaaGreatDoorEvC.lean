/- The evaluator: its tries and lists; how abstract values and memory relate to the model's. -/
import Derived.Test.YthcldogebnjohaaGreatDoorEvB
import Derived.Laws.Sem
import Derived.Below
import Derived.Laws.Cells
section
namespace Go.Ev
theorem ob_some {α β : Type} {x : Option α} {f : α → Option β} {y : β} : ob x f = some y ↔ ∃ v, x = some v ∧ f v = some y := by
  cases x <;> simp [ob]
theorem bt_some {β : Type} {b : Bool} {x : Option β} {y : β} : bt b x = some y ↔ b = true ∧ x = some y := by
  cases b <;> simp [bt]
theorem half_eq {i j : Nat} (h : Nat.beq (Nat.mod i 2) 0 = Nat.beq (Nat.mod j 2) 0) : Nat.div i 2 = Nat.div j 2 ↔ i = j := by
  have hi : Nat.mod i 2 = i % 2 := rfl
  have hj : Nat.mod j 2 = j % 2 := rfl
  have di : Nat.div i 2 = i / 2 := rfl
  have dj : Nat.div j 2 = j / 2 := rfl
  rw [hi, hj] at h
  rw [di, dj]
  rcases Nat.mod_two_eq_zero_or_one i with a | a <;> rcases Nat.mod_two_eq_zero_or_one j with b | b <;> rw [a, b] at h
  · omega
  · exact absurd h (by decide)
  · exact absurd h (by decide)
  · omega
theorem half_ne {i j : Nat} (h : Nat.beq (Nat.mod i 2) 0 ≠ Nat.beq (Nat.mod j 2) 0) : i ≠ j := fun e => h (by rw [e])
theorem get_succ {α : Type} (l : T α) (v : Option α) (r : T α) (k : Nat) : (T.n l v r).get (k + 1) = (Bool.rec (r.get (Nat.div k 2)) (l.get (Nat.div k 2)) (Nat.beq (Nat.mod k 2) 0) : Option α) := rfl
theorem sing_succ {α : Type} (x : α) (f k : Nat) : T.sing x (f + 1) (k + 1) = (Bool.rec (T.n .e none (T.sing x f (Nat.div k 2))) (.n (T.sing x f (Nat.div k 2)) none .e) (Nat.beq (Nat.mod k 2) 0) : T α) := rfl
theorem set_succ {α : Type} (l : T α) (v : Option α) (r : T α) (k : Nat) (x : α) : (T.n l v r).set (k + 1) x = (Bool.rec (T.n l v (r.set (Nat.div k 2) x)) (.n (l.set (Nat.div k 2) x) v r) (Nat.beq (Nat.mod k 2) 0) : T α) := rfl
theorem get_sing {α : Type} (x : α) : ∀ (f k i : Nat), k < f → (T.sing x f k).get i = if i = k then some x else none := by
  intro f
  induction f with
  | zero => intro k i h; omega
  | succ f ih =>
    intro k i h
    cases k with
    | zero =>
      cases i with
      | zero => rfl
      | succ i =>
        show (T.n .e (some x) .e).get (i + 1) = _
        rw [get_succ]
        cases Nat.beq (Nat.mod i 2) 0 <;> rfl
    | succ k =>
      have hk : Nat.div k 2 < f := by have : Nat.div k 2 = k / 2 := rfl; omega
      rw [sing_succ]
      cases hb : Nat.beq (Nat.mod k 2) 0 with
      | false =>
        cases i with
        | zero => rfl
        | succ i =>
          rw [get_succ]
          cases hc : Nat.beq (Nat.mod i 2) 0 with
          | true => show none = _; rw [if_neg]; intro e; exact half_ne (i := i) (j := k) (by rw [hb, hc]; decide) (by omega)
          | false => show (T.sing x f _).get _ = _; rw [ih _ _ hk]; have := half_eq (i := i) (j := k) (by rw [hb, hc]); simp only [this, Nat.add_right_cancel_iff]
      | true =>
        cases i with
        | zero => rfl
        | succ i =>
          rw [get_succ]
          cases hc : Nat.beq (Nat.mod i 2) 0 with
          | false => show none = _; rw [if_neg]; intro e; exact half_ne (i := i) (j := k) (by rw [hb, hc]; decide) (by omega)
          | true => show (T.sing x f _).get _ = _; rw [ih _ _ hk]; have := half_eq (i := i) (j := k) (by rw [hb, hc]); simp only [this, Nat.add_right_cancel_iff]
theorem get_set {α : Type} (x : α) : ∀ (t : T α) (k i : Nat), (t.set k x).get i = if i = k then some x else t.get i := by
  intro t
  induction t with
  | e => intro k i; show (T.sing x (k + 1) k).get i = _; rw [get_sing _ _ _ _ (Nat.lt_succ_self k)]; rfl
  | n l v r ihl ihr =>
    intro k i
    cases k with
    | zero => cases i with
      | zero => rfl
      | succ i => rfl
    | succ k =>
      rw [set_succ]
      cases hb : Nat.beq (Nat.mod k 2) 0 with
      | false =>
        cases i with
        | zero => rfl
        | succ i =>
          rw [get_succ, get_succ]
          cases hc : Nat.beq (Nat.mod i 2) 0 with
          | true => show l.get _ = _; rw [if_neg]; intro e; exact half_ne (i := i) (j := k) (by rw [hb, hc]; decide) (by omega)
          | false => show (r.set _ x).get _ = if _ then _ else r.get _; rw [ihr]; have := half_eq (i := i) (j := k) (by rw [hb, hc]); simp only [this, Nat.add_right_cancel_iff]
      | true =>
        cases i with
        | zero => rfl
        | succ i =>
          rw [get_succ, get_succ]
          cases hc : Nat.beq (Nat.mod i 2) 0 with
          | false => show r.get _ = _; rw [if_neg]; intro e; exact half_ne (i := i) (j := k) (by rw [hb, hc]; decide) (by omega)
          | true => show (l.set _ x).get _ = if _ then _ else l.get _; rw [ihl]; have := half_eq (i := i) (j := k) (by rw [hb, hc]); simp only [this, Nat.add_right_cancel_iff]
theorem lget_eq {α : Type} : ∀ (l : List α) (k : Nat), lget l k = l[k]? := by
  intro l
  induction l with
  | nil => intro k; rfl
  | cons x l ih => intro k; cases k with
    | zero => rfl
    | succ k => show lget l k = _; rw [ih]; simp
theorem ocons_some {α : Type} {x : α} {o : Option (List α)} {r : List α} : ocons x o = some r ↔ ∃ l, o = some l ∧ r = x :: l := by
  simp only [ocons, ob_some, Option.some.injEq]
  constructor
  · rintro ⟨v, h, e⟩; exact ⟨v, h, e.symm⟩
  · rintro ⟨v, h, e⟩; exact ⟨v, h, e.symm⟩
theorem ldrop_some {α : Type} : ∀ (n : Nat) (l r : List α), ldrop n l = some r → r = l.drop n ∧ n ≤ l.length := by
  intro n
  induction n with
  | zero => intro l r h; simp only [ldrop] at h; cases h; simp
  | succ n ih => intro l r h; cases l with
    | nil => cases h
    | cons x l => have := ih l r h; simp; exact this
theorem ltake_some {α : Type} : ∀ (n : Nat) (l r : List α), ltake n l = some r → r = l.take n ∧ n ≤ l.length := by
  intro n
  induction n with
  | zero => intro l r h; simp only [ltake] at h; cases h; simp
  | succ n ih => intro l r h; cases l with
    | nil => cases h
    | cons x l =>
      have h' : ocons x (ltake n l) = some r := h
      obtain ⟨m, hm, rfl⟩ := ocons_some.1 h'
      have := ih l m hm; simp; exact this
theorem lsub_some {α : Type} {l r : List α} {off n : Nat} (h : lsub l off n = some r) : r = (l.drop off).take n ∧ off + n ≤ l.length := by
  simp only [lsub, ob_some] at h
  obtain ⟨m, hm, h⟩ := h
  obtain ⟨rfl, h1⟩ := ldrop_some _ _ _ hm
  obtain ⟨rfl, h2⟩ := ltake_some _ _ _ h
  simp at h2
  exact ⟨rfl, by omega⟩
theorem lhead_some {α : Type} : ∀ (xs l r : List α), lhead xs l = some r → r = xs ++ l.drop xs.length ∧ xs.length ≤ l.length := by
  intro xs
  induction xs with
  | nil => intro l r h; simp only [lhead] at h; cases h; simp
  | cons x xs ih => intro l r h; cases l with
    | nil => cases h
    | cons y l =>
      have h' : ocons x (lhead xs l) = some r := h
      obtain ⟨m, hm, rfl⟩ := ocons_some.1 h'
      have := ih l m hm; simp; exact this
theorem lover_some {α : Type} (xs : List α) : ∀ (off : Nat) (l r : List α), lover xs off l = some r → r = l.take off ++ (xs ++ l.drop (off + xs.length)) ∧ off + xs.length ≤ l.length := by
  intro off
  induction off with
  | zero => intro l r h; have := lhead_some xs l r h; simpa using this
  | succ n ih => intro l r h; cases l with
    | nil => cases h
    | cons y l =>
      have h' : ocons y (lover xs n l) = some r := h
      obtain ⟨m, hm, rfl⟩ := ocons_some.1 h'
      obtain ⟨rfl, h2⟩ := ih l m hm
      refine ⟨?_, by simp; omega⟩
      rw [show n + 1 + xs.length = (n + xs.length) + 1 by omega]
      simp
theorem lset_some {α : Type} (y : α) : ∀ (l : List α) (k : Nat) (r : List α), lset y l k = some r → r = l.set k y ∧ k < l.length := by
  intro l
  induction l with
  | nil => intro k r h; cases h
  | cons x l ih => intro k r h; cases k with
    | zero => cases h; simp
    | succ k =>
      have h' : ocons x (lset y l k) = some r := h
      obtain ⟨m, hm, rfl⟩ := ocons_some.1 h'
      have := ih k m hm; simp; exact this
theorem ldel_eq {α : Type} : ∀ (l : List α) (k : Nat), ldel l k = l.eraseIdx k := by
  intro l
  induction l with
  | nil => intro k; rfl
  | cons x l ih => intro k; cases k with
    | zero => rfl
    | succ k => show x :: ldel l k = _; rw [ih]; rfl
theorem lenB_iff {α : Type} : ∀ (l : List α) (n : Nat), lenB l n = true ↔ l.length = n := by
  intro l
  induction l with
  | nil => intro n; cases n with
    | zero => exact ⟨fun _ => rfl, fun _ => rfl⟩
    | succ n => exact ⟨fun h => (by cases h), fun h => (by cases h)⟩
  | cons x l ih => intro n; cases n with
    | zero => exact ⟨fun h => (by cases h), fun h => (by cases h)⟩
    | succ n => show lenB l n = true ↔ _; rw [ih]; simp
theorem omap_cons {α β : Type} {f : α → Option β} {x : α} {l : List α} {r : List β} : omap f (x :: l) = some r ↔ ∃ y ys, f x = some y ∧ omap f l = some ys ∧ r = y :: ys := by
  show ob (f x) (fun y => ocons y (omap f l)) = some r ↔ _
  simp only [ob_some, ocons_some]
  constructor
  · rintro ⟨y, h, ys, h2, rfl⟩; exact ⟨y, ys, h, h2, rfl⟩
  · rintro ⟨y, ys, h, h2, rfl⟩; exact ⟨y, h, ys, h2, rfl⟩
theorem omap_nil {α β : Type} {f : α → Option β} {r : List β} : omap f [] = some r ↔ r = [] := by
  show some [] = some r ↔ _
  simp [eq_comm]
theorem lall_iff {α : Type} {f : α → Bool} : ∀ {l : List α}, lall f l = true ↔ ∀ x ∈ l, f x = true := by
  intro l
  induction l with
  | nil => simp [lall]
  | cons x l ih =>
    show (Bool.rec false (lall f l) (f x) : Bool) = true ↔ _
    cases h : f x <;> simp [h, ih]
theorem blt_iff {a b : Nat} : Nat.blt a b = true ↔ a < b := by simp [Nat.blt_eq]
theorem bleIff {a b : Nat} : Nat.ble a b = true ↔ a ≤ b := by rw [Nat.ble_eq]
theorem beqIff {a b : Nat} : Nat.beq a b = true ↔ a = b := by rw [Nat.beq_eq]
theorem fnat_eq {α : Type} (n : Nat) (k : Nat → α) : fnat n k = k n := by cases n <;> rfl
theorem fint_eq {α : Type} (n : Int) (k : Int → α) : fint n k = k n := by
  cases n with
  | ofNat m => exact fnat_eq m fun m => k (.ofNat m)
  | negSucc m => exact fnat_eq m fun m => k (.negSucc m)
theorem boolV_eq (b : Bool) : boolV b = some (.bool b) := by cases b <;> rfl
theorem natV_eq (k : IntKind) (n : Nat) : natV k n = some (.int k (.ofNat n)) := fnat_eq n _
theorem fval_eq (v : Value) : fval v = some v := by
  cases v with
  | int k n => exact fint_eq n fun n => some (Value.int k n)
  | bool b => exact boolV_eq b
  | _ => rfl
theorem bnot_eq (b : Bool) : bnot b = !b := by cases b <;> rfl
abbrev Sg := Nat → Option (Nat × Nat)
def isScal : Value → Bool
  | .int _ _ | .bool _ | .string _ | .pointer _ | .slice _ _ _ => true
  | _ => false
theorem isScal_one {v : Value} (h : isScal v = true) : v.oneCell = true := by cases v <;> first | rfl | (cases h)
mutual
inductive VR (σ : Sg) : Value → Value → Prop
  | flat {v : Value} : flat v = true → VR σ v v
  | ptr {i b d o : Nat} : σ i = some (b, d) → VR σ (.pointer (some ⟨i, o, none⟩)) (.pointer (some ⟨b, o, none⟩))
  | slice {i b d o l c : Nat} : σ i = some (b, d) → VR σ (.slice (some ⟨i, o, none⟩) l c) (.slice (some ⟨b, o, none⟩) l (c + d))
  | map {i b d : Nat} : σ i = some (b, d) → VR σ (.map (some i)) (.map (some b))
  | func {fn : Fn} {f f' c c' : List Value} : VRL σ f f' → VRL σ c c' → VR σ (.func fn ⟨f⟩ ⟨c⟩) (.func fn ⟨f'⟩ ⟨c'⟩)
  | iface {t : TypeId} {v v' : Value} : Nat.blt t SYM = true → VR σ v v' → VR σ (.iface t v) (.iface t v')
  | sym {v v' : Value} : isScal v = true → VR σ v v' → VR σ (.iface SYM v) v'
  | any {v' : Value} : True → VR σ (.iface UNK .nilIface) v'
  | emp {a : Option Addr} {c : Nat} : True → VR σ (.iface UNK (.slice none 0 0)) (.slice a 0 c)
  | ext {v : Value} : isScal v = true → VR σ (.iface EXT v) v
  | mnil {nb : Bool} {i o l c : Nat} : nb = true → l = 0 → c = 0 → VR σ (.iface MN (.agg #[.bool nb, .slice (some ⟨i, o, none⟩) l c])) (.slice none 0 0)
  | mn {nb : Bool} {i o b d l c : Nat} : nb = false → σ i = some (b, d) → VR σ (.iface MN (.agg #[.bool nb, .slice (some ⟨i, o, none⟩) l c])) (.slice (some ⟨b, o, none⟩) l (c + d))
  | agg {c c' : List Value} : VRL σ c c' → VR σ (.agg ⟨c⟩) (.agg ⟨c'⟩)
  | tuple {c c' : List Value} : VRL σ c c' → VR σ (.tuple ⟨c⟩) (.tuple ⟨c'⟩)
inductive VRL (σ : Sg) : List Value → List Value → Prop
  | nil : VRL σ [] []
  | cons {v v' : Value} {l l' : List Value} : VR σ v v' → VRL σ l l' → VRL σ (v :: l) (v' :: l')
end
def Ext (N : Nat) (σ σ' : Sg) : Prop := ∀ i, i < N → σ' i = σ i
theorem Ext.refl (N : Nat) (σ : Sg) : Ext N σ σ := fun _ _ => rfl
def Sub (σ σ' : Sg) : Prop := ∀ i p, σ i = some p → σ' i = some p
mutual
theorem VR.sub {σ σ' : Sg} (h : Sub σ σ') : ∀ {v v' : Value}, VR σ v v' → VR σ' v v'
  | _, _, .flat e => .flat e
  | _, _, .ptr e => .ptr (h _ _ e)
  | _, _, .slice e => .slice (h _ _ e)
  | _, _, .map e => .map (h _ _ e)
  | _, _, .func a b => .func (VRL.sub h a) (VRL.sub h b)
  | _, _, .iface e a => .iface e (VR.sub h a)
  | _, _, .sym e a => .sym e (VR.sub h a)
  | _, _, .any e => .any e
  | _, _, .emp e => .emp e
  | _, _, .ext e => .ext e
  | _, _, .mnil e f g => .mnil e f g
  | _, _, .mn e f => .mn e (h _ _ f)
  | _, _, .agg a => .agg (VRL.sub h a)
  | _, _, .tuple a => .tuple (VRL.sub h a)
theorem VRL.sub {σ σ' : Sg} (h : Sub σ σ') : ∀ {l l' : List Value}, VRL σ l l' → VRL σ' l l'
  | _, _, .nil => .nil
  | _, _, .cons a b => .cons (VR.sub h a) (VRL.sub h b)
end
section
variable {σ : Sg}
theorem VR.of_flat {v v' : Value} (h : VR σ v v') (hf : Ev.flat v = true) : v' = v := by
  cases h <;> first | rfl | (simp [Ev.flat] at hf; done)
theorem VRL.of_flats {l l' : List Value} (h : VRL σ l l') (hf : flats l = true) : l' = l := by
  unfold flats at hf
  rw [lall_iff] at hf
  induction l generalizing l' with
  | nil => cases h; rfl
  | cons v l ih =>
    cases h with
    | cons a b => rw [a.of_flat (hf v (by simp)), ih b (fun x hx => hf x (by simp [hx]))]
theorem VRL.refl_flats {l : List Value} (hf : flats l = true) : VRL σ l l := by
  unfold flats at hf
  rw [lall_iff] at hf
  induction l with
  | nil => exact .nil
  | cons v l ih => exact .cons (.flat (hf v (by simp))) (ih fun x hx => hf x (by simp [hx]))
theorem VR.of_flat2 {v v' : Value} (h : VR σ v v') (hf : flat2 v = true) : v' = v := by
  cases h with
  | agg a => have := a.of_flats hf; rw [this]
  | flat e => rfl
  | _ => simp [flat2, Ev.flat] at hf
theorem VR.refl_flat2 {v : Value} (hf : flat2 v = true) : VR σ v v := by
  unfold flat2 at hf
  split at hf
  · rename_i c; obtain ⟨c⟩ := c; exact .agg (.refl_flats hf)
  · exact .flat hf
theorem VRL.length {l l' : List Value} (h : VRL σ l l') : l'.length = l.length := by
  induction l generalizing l' with
  | nil => cases h; rfl
  | cons v l ih => cases h with | cons a b => simp [ih b]
theorem VRL.get {l l' : List Value} (h : VRL σ l l') {k : Nat} {v : Value} (hk : l[k]? = some v) : ∃ v', l'[k]? = some v' ∧ VR σ v v' := by
  induction l generalizing l' k with
  | nil => simp at hk
  | cons x l ih =>
    cases h with
    | cons a b =>
      cases k with
      | zero => simp at hk; subst hk; exact ⟨_, rfl, a⟩
      | succ k => simp at hk; simpa using ih b hk
theorem VRL.append {l l' m m' : List Value} (h : VRL σ l l') (g : VRL σ m m') : VRL σ (l ++ m) (l' ++ m') := by
  induction l generalizing l' with
  | nil => cases h; exact g
  | cons x l ih => cases h with | cons a b => exact .cons a (ih b)
theorem VRL.take {l l' : List Value} (h : VRL σ l l') (n : Nat) : VRL σ (l.take n) (l'.take n) := by
  induction l generalizing l' n with
  | nil => cases h; simp; exact .nil
  | cons x l ih => cases h with
    | cons a b => cases n with
      | zero => simp; exact .nil
      | succ n => simp; exact .cons a (ih b n)
theorem VRL.drop {l l' : List Value} (h : VRL σ l l') (n : Nat) : VRL σ (l.drop n) (l'.drop n) := by
  induction l generalizing l' n with
  | nil => cases h; simp; exact .nil
  | cons x l ih => cases h with
    | cons a b => cases n with
      | zero => simp; exact .cons a b
      | succ n => simp; exact ih b n
theorem isScal_notU {v : Value} (h : isScal v = true) : notU v = true := by cases v <;> first | rfl | (cases h)
theorem VR.oneCell : ∀ {v v' : Value}, VR σ v v' → notU v = true → v'.oneCell = v.oneCell
  | _, _, .flat e, _ => rfl
  | _, _, .ptr e, _ => rfl
  | _, _, .slice e, _ => rfl
  | _, _, .map e, _ => rfl
  | _, _, .func a b, _ => rfl
  | _, _, .iface e a, _ => rfl
  | _, _, .sym e a, _ => (VR.oneCell a (isScal_notU e)).trans (isScal_one e)
  | _, _, .any _, h => Bool.noConfusion (show (false : Bool) = true from h)
  | _, _, .emp _, h => Bool.noConfusion (show (false : Bool) = true from h)
  | _, _, .ext e, _ => isScal_one e
  | _, _, .mnil _ _ _, _ => rfl
  | _, _, .mn _ _, _ => rfl
  | _, _, .agg a, _ => rfl
  | _, _, .tuple a, _ => rfl
theorem VR.cells {v v' : Value} (h : VR σ v v') (hk : notU v = true) : VRL σ (cellsA v) v'.cells.toList := by
  cases h with
  | agg a => exact a
  | flat e => cases v <;> first | (simp [Ev.flat] at e; done) | exact .cons (.flat e) .nil
  | ptr e => exact .cons (.ptr e) .nil
  | slice e => exact .cons (.slice e) .nil
  | map e => exact .cons (.map e) .nil
  | func a b => exact .cons (.func a b) .nil
  | iface e a => exact .cons (.iface e a) .nil
  | sym e a =>
    have h1 : v'.oneCell = true := by rw [VR.oneCell a (isScal_notU e)]; exact isScal_one e
    have h2 : v'.cells.toList = [v'] := by cases v' <;> first | rfl | (cases h1)
    rw [h2]; exact .cons (.sym e a) .nil
  | any e => exact Bool.noConfusion (show (false : Bool) = true from hk)
  | emp e => exact Bool.noConfusion (show (false : Bool) = true from hk)
  | ext e =>
    have h1 : v'.oneCell = true := isScal_one e
    have h2 : v'.cells.toList = [v'] := by cases v' <;> first | rfl | (cases h1)
    rw [h2]; exact .cons (.ext e) .nil
  | mnil e f g => exact .cons (.mnil e f g) .nil
  | mn e f => exact .cons (.mn e f) .nil
  | tuple a => exact .cons (.tuple a) .nil
theorem oneK_iff {v : Value} : oneK v = true ↔ v.oneCell = true ∧ notU v = true := by
  unfold oneK; cases notU v <;> simp
theorem notU_of_cells {v : Value} (h : lall oneK (cellsA v) = true) : notU v = true := by
  cases v <;> try rfl
  rw [lall_iff] at h
  exact (oneK_iff.1 (h _ List.mem_cons_self)).2
theorem VRL.oneCells {l l' : List Value} (h : VRL σ l l') (hf : lall oneK l = true) : ∀ x ∈ l', x.oneCell = true := by
  rw [lall_iff] at hf
  induction l generalizing l' with
  | nil => cases h; simp
  | cons v l ih =>
    cases h with
    | cons a b =>
      intro x hx
      rcases List.mem_cons.1 hx with rfl | hx
      · have := oneK_iff.1 (hf v (by simp)); rw [a.oneCell this.2]; exact this.1
      · exact ih b (fun x hx => hf x (by simp [hx])) x hx
end
end Go.Ev
end

/- The evaluator: how its memory relates to the model's; what is read there. -/
section
set_option linter.unusedSectionVars false
namespace Go.Ev
variable {P : Program} {σ : Sg}
inductive ER (σ : Sg) : List MapEntry → List MapEntry → Prop
  | nil : ER σ [] []
  | cons {e e' : MapEntry} {l l' : List MapEntry} : e'.key = e.key → flat e.key = true → VR σ e.val e'.val → e'.born = e.born → ER σ l l' → ER σ (e :: l) (e' :: l')
def unfrozen (n : Nat) (fz : Nat × Nat) : Prop := ∀ o, o < n → ¬ (fz.1 ≤ o ∧ o < fz.2)
structure RowR (P : Program) (σ : Sg) (d : Nat) (c : List Value) (e : TypeId) (m : Md) (c' : Array Value) (fz : Nat × Nat) : Prop where
  cells : ∃ cs x, c'.toList = cs ++ x ∧ VRL σ c cs ∧ (m.roomy = false → x = [])
  exact_ : m.roomy = false → d = 0
  cap : ∀ rc, m = .grown rc → ∀ i, P.info? e = some i → c'.size = (rc + d) * i.size
  free : m.writes = true → unfrozen c'.size fz
def OR (P : Program) (σ : Sg) (d : Nat) : AO → Obj → Prop
  | .row c e m, .cells c' e' fz => (m.writes = false ∨ e' = e) ∧ RowR P σ d c e m c' fz
  | .map es k, .map es' k' => k' = k ∧ ER σ es es'.toList
  | _, _ => False
def live : AO → Bool
  | .dead => false
  | _ => true
def mayW : AO → Bool
  | .row _ _ m => m.writes
  | .map _ _ => true
  | .dead => false
theorem live_of_mayW {o : AO} (h : mayW o = true) : live o = true := by cases o <;> simp_all [mayW, live]
def Wr (σ : Sg) (A : AW) (b : Nat) : Prop := ∃ i d o, σ i = some (b, d) ∧ A.heap.get i = some o ∧ mayW o = true
class Frozen (P : Program) where
  F : Nat → Option Obj
structure RelB (P : Program) (σ : Sg) (A : AW) (w : World) : Prop where
  obj : ∀ i b d o, σ i = some (b, d) → A.heap.get i = some o → live o = true → ∃ x, w.heap[b]? = some x ∧ OR P σ d o x
  inj : ∀ i j b d d' o o', σ i = some (b, d) → σ j = some (b, d') → A.heap.get i = some o → A.heap.get j = some o' → live o = true → live o' = true → (mayW o || mayW o') = true → i = j
  lim : ∀ i, A.next ≤ i → σ i = none
  glob : ∀ g, g < P.globals.size → σ g = some (g, 0)
  top : ∀ i, A.next ≤ i → A.heap.get i = none
def Fro (P : Program) [Frozen P] (σ : Sg) (A : AW) (w : World) : Prop := ∀ b x, Frozen.F P b = some x → w.heap[b]? = some x ∧ ¬ Wr σ A b
structure Rel (P : Program) [Frozen P] (σ : Sg) (A : AW) (w : World) : Prop extends RelB P σ A w where
  fro : Fro P σ A w
variable [Frozen P]
structure Step (σ : Sg) (A : AW) (w : World) (σ' : Sg) (A' : AW) (w' : World) : Prop where
  ext : ∀ i, i < A.next → σ' i = σ i
  next : A.next ≤ A'.next
  os : w'.os = w.os
  tape : w'.tape = w.tape
  output : w'.output = w.output
  size : w.heap.size ≤ w'.heap.size
  block : ∀ b, b < w.heap.size → ¬ Wr σ A b → w'.heap[b]? = w.heap[b]?
  wr : ∀ b, b < w.heap.size → Wr σ' A' b → Wr σ A b
  new : ∀ i b d o, A.next ≤ i → σ' i = some (b, d) → A'.heap.get i = some o → live o = true → b < w.heap.size → Wr σ A b
  old : ∀ i o, i < A.next → A'.heap.get i = some o → live o = true → ∃ o', A.heap.get i = some o' ∧ live o' = true
theorem Step.refl {A : AW} {w : World} (h : ∀ i, A.next ≤ i → σ i = none) : Step σ A w σ A w :=
  ⟨fun _ _ => rfl, Nat.le_refl _, rfl, rfl, rfl, Nat.le_refl _, fun _ _ _ => rfl, fun _ _ h => h, fun i b d o h1 h2 _ _ _ => (by
    rw [h i h1] at h2; cases h2), fun i o _ h2 h3 => ⟨o, h2, h3⟩⟩
theorem Step.trans {σ1 σ2 : Sg} {A A1 A2 : AW} {w w1 w2 : World} (h : Step σ A w σ1 A1 w1) (k : Step σ1 A1 w1 σ2 A2 w2) : Step σ A w σ2 A2 w2 where
  ext := fun i hi => (k.ext i (Nat.lt_of_lt_of_le hi h.next)).trans (h.ext i hi)
  next := Nat.le_trans h.next k.next
  os := k.os.trans h.os
  tape := k.tape.trans h.tape
  output := k.output.trans h.output
  size := Nat.le_trans h.size k.size
  block := fun b hb hn => (k.block b (Nat.lt_of_lt_of_le hb h.size) fun hw => hn (h.wr b hb hw)).trans (h.block b hb hn)
  wr := fun b hb hw => h.wr b hb (k.wr b (Nat.lt_of_lt_of_le hb h.size) hw)
  new := fun i b d o hi hs ho hl hb => by
    by_cases h1 : A1.next ≤ i
    · exact h.wr b hb (k.new i b d o h1 hs ho hl (Nat.lt_of_lt_of_le hb h.size))
    · have h1 : i < A1.next := Nat.lt_of_not_le h1
      obtain ⟨o', ho', hl'⟩ := k.old i o h1 ho hl
      exact h.new i b d o' hi (by rw [← k.ext i h1]; exact hs) ho' hl' hb
  old := fun i o hi ho hl => by
    obtain ⟨o', ho', hl'⟩ := k.old i o (Nat.lt_of_lt_of_le hi h.next) ho hl
    exact h.old i o' hi ho' hl'
theorem Fro.step {σ' : Sg} {A A' : AW} {w w' : World} (h : Fro P σ A w) (k : Step σ A w σ' A' w') : Fro P σ' A' w' := fun b x e => by
  obtain ⟨h1, h2⟩ := h b x e
  have hb : b < w.heap.size := (Array.getElem?_eq_some_iff.1 h1).1
  exact ⟨(k.block b hb h2).trans h1, fun hw => h2 (k.wr b hb hw)⟩
theorem Rel.both {σ' : Sg} {A A' : AW} {w w' : World} (hR : Rel P σ A w) (h : RelB P σ' A' w' ∧ Step σ A w σ' A' w') : Rel P σ' A' w' ∧ Step σ A w σ' A' w' := ⟨⟨h.1, hR.fro.step h.2⟩, h.2⟩
theorem Step.sub {σ' : Sg} {A A' : AW} {w w' : World} (h : Step σ A w σ' A' w') (hl : ∀ i, A.next ≤ i → σ i = none) : Sub σ σ' := fun i p hp => by
  by_cases hi : i < A.next
  · rw [h.ext i hi]; exact hp
  · rw [hl i (Nat.le_of_not_lt hi)] at hp; cases hp
theorem rowAt_some {H : T AO} {i : Nat} {β : Type} {f : List Value → TypeId → Md → Option β} {y : β} : rowAt H i f = some y ↔ ∃ c e m, H.get i = some (.row c e m) ∧ f c e m = some y := by
  simp only [rowAt, ob_some]
  constructor
  · rintro ⟨o, h, h2⟩
    cases o with
    | row c e m => exact ⟨c, e, m, h, h2⟩
    | map _ _ => cases h2
    | dead => cases h2
  · rintro ⟨c, e, m, h, h2⟩; exact ⟨_, h, h2⟩
theorem mapAt_some {H : T AO} {i : Nat} {β : Type} {f : List MapEntry → Nat → Option β} {y : β} : mapAt H i f = some y ↔ ∃ es k, H.get i = some (.map es k) ∧ f es k = some y := by
  simp only [mapAt, ob_some]
  constructor
  · rintro ⟨o, h, h2⟩
    cases o with
    | row c e m => cases h2
    | map es k => exact ⟨es, k, h, h2⟩
    | dead => cases h2
  · rintro ⟨es, k, h, h2⟩; exact ⟨_, h, h2⟩
theorem plainAt_some {a : Addr} {β : Type} {f : Nat → Nat → Option β} {y : β} : plainAt a f = some y ↔ a = ⟨a.block, a.off, none⟩ ∧ f a.block a.off = some y := by
  obtain ⟨b, o, s⟩ := a
  cases s <;> simp [plainAt]
theorem ptrV_some {v : Value} {a : Addr} : ptrV v = some a ↔ v = .pointer (some a) := by cases v <;> simp [ptrV]
theorem aggV_some {v : Value} {c : List Value} : aggV v = some c ↔ v = .agg ⟨c⟩ := by
  cases v <;> simp [aggV]
  rename_i x; obtain ⟨x⟩ := x; simp
theorem numV_some {v : Value} {n : Nat} : numV v = some n ↔ ∃ k, v = .int k (.ofNat n) := by
  cases v <;> simp [numV]
  rename_i k i; cases i <;> simp
  omega
theorem strV_some {v : Value} {l : List UInt8} : strV v = some l ↔ v = mkStr l := by
  cases v <;> simp [strV, mkStr]
  rename_i x; obtain ⟨⟨x⟩⟩ := x; simp
theorem tupV_some {v : Value} {c : List Value} : tupV v = some c ↔ v = .tuple ⟨c⟩ := by
  cases v <;> simp [tupV]
  rename_i x; obtain ⟨x⟩ := x; simp
theorem boolOf_some {v : Value} {b : Bool} : boolOf v = some b ↔ v = .bool b := by cases v <;> simp [boolOf]
theorem VR.ptr_inv {i o : Nat} {v' : Value} (h : VR σ (.pointer (some ⟨i, o, none⟩)) v') : ∃ b d, σ i = some (b, d) ∧ v' = .pointer (some ⟨b, o, none⟩) := by
  cases h with
  | ptr e => exact ⟨_, _, e, rfl⟩
  | flat e => simp [Ev.flat] at e
theorem VR.ptr_plain {a : Addr} {v' : Value} (h : VR σ (.pointer (some a)) v') : a = ⟨a.block, a.off, none⟩ := by
  cases h with
  | ptr e => rfl
  | flat e => simp [Ev.flat] at e
theorem VR.slice_inv {i o l c : Nat} {v' : Value} (h : VR σ (.slice (some ⟨i, o, none⟩) l c) v') : ∃ b d, σ i = some (b, d) ∧ v' = .slice (some ⟨b, o, none⟩) l (c + d) := by
  cases h with
  | slice e => exact ⟨_, _, e, rfl⟩
  | flat e => simp [Ev.flat] at e
theorem VR.map_inv {i : Nat} {v' : Value} (h : VR σ (.map (some i)) v') : ∃ b d, σ i = some (b, d) ∧ v' = .map (some b) := by
  cases h with
  | map e => exact ⟨_, _, e, rfl⟩
  | flat e => simp [Ev.flat] at e
theorem VR.agg_inv {c : List Value} {v' : Value} (h : VR σ (.agg ⟨c⟩) v') : ∃ c', VRL σ c c' ∧ v' = .agg ⟨c'⟩ := by
  cases h with
  | agg a => exact ⟨_, a, rfl⟩
  | flat e => simp [Ev.flat] at e
theorem VR.tuple_inv {c : List Value} {v' : Value} (h : VR σ (.tuple ⟨c⟩) v') : ∃ c', VRL σ c c' ∧ v' = .tuple ⟨c'⟩ := by
  cases h with
  | tuple a => exact ⟨_, a, rfl⟩
  | flat e => simp [Ev.flat] at e
theorem VR.undef : VR σ Go.undef Go.undef := .tuple .nil
variable {A : AW} {w : World}
theorem Rel.rowA (hR : Rel P σ A w) {i b d : Nat} {c : List Value} {e : TypeId} {m : Md} (hs : σ i = some (b, d)) (hg : A.heap.get i = some (.row c e m)) :
    ∃ c' e' fz, w.heap[b]? = some (.cells c' e' fz) ∧ RowR P σ d c e m c' fz ∧ (m.writes = false ∨ e' = e) := by
  obtain ⟨x, hx, ho⟩ := hR.obj i b d _ hs hg rfl
  cases x with
  | cells c' e' fz => obtain ⟨h, hr⟩ := ho; exact ⟨c', e', fz, hx, hr, h⟩
  | _ => exact ho.elim
theorem Rel.row (hR : Rel P σ A w) {i b d : Nat} {c : List Value} {e : TypeId} {m : Md} (hs : σ i = some (b, d)) (hg : A.heap.get i = some (.row c e m)) (hm : m.writes = true) :
    ∃ c' fz, w.heap[b]? = some (.cells c' e fz) ∧ RowR P σ d c e m c' fz := by
  obtain ⟨c', e', fz, hx, hr, h⟩ := hR.rowA hs hg
  rcases h with e | rfl
  · rw [e] at hm; cases hm
  · exact ⟨c', fz, hx, hr⟩
theorem Rel.map (hR : Rel P σ A w) {i b d : Nat} {es : List MapEntry} {k : Nat} (hs : σ i = some (b, d)) (hg : A.heap.get i = some (.map es k)) :
    ∃ es', w.heap[b]? = some (.map es' k) ∧ ER σ es es'.toList := by
  obtain ⟨x, hx, ho⟩ := hR.obj i b d _ hs hg rfl
  cases x with
  | map es' k' => obtain ⟨rfl, hr⟩ := ho; exact ⟨es', hx, hr⟩
  | _ => exact ho.elim
theorem RowR.get {d : Nat} {c : List Value} {e : TypeId} {m : Md} {c' : Array Value} {fz : Nat × Nat} (h : RowR P σ d c e m c' fz) {k : Nat} {v : Value} (hk : c[k]? = some v) :
    ∃ v', c'[k]? = some v' ∧ VR σ v v' := by
  obtain ⟨cs, x, e, hc, _⟩ := h.cells
  obtain ⟨v', hv, hr⟩ := hc.get hk
  refine ⟨v', ?_, hr⟩
  rw [← Array.getElem?_toList, e, List.getElem?_append_left (by
    rcases Nat.lt_or_ge k cs.length with h' | h'
    · exact h'
    · rw [List.getElem?_eq_none h'] at hv; cases hv)]
  exact hv
theorem cell_of {b o : Nat} {c' : Array Value} {e : TypeId} {fz : Nat × Nat} {v' : Value} (h : w.heap[b]? = some (.cells c' e fz)) (hk : c'[o]? = some v') : w.cell? ⟨b, o, none⟩ = some v' := by
  simp [World.cell?, h, hk]
theorem add_plain (b o n : Nat) : (⟨b, o, none⟩ : Addr).add n = ⟨b, o + n, none⟩ := by
  unfold Addr.add; split <;> simp_all
theorem run_info {t : TypeId} {i : TypeInfo} (h : P.info? t = some i) (w : World) : (typeInfo t).run P w = .ok i w := by simp [typeInfo, h]
theorem run_under {t : TypeId} {d : TypeDesc} (h : P.underlying t = some d) (w : World) : (underlying t).run P w = .ok d w := by simp [underlying, h]
theorem sizeA_some {t : TypeId} {n : Nat} : sizeA P t = some n ↔ ∃ i, P.info? t = some i ∧ i.size = n := by simp [sizeA, ob_some]
theorem run_size {t : TypeId} {n : Nat} (h : sizeA P t = some n) (w : World) : (sizeOf t).run P w = .ok n w := by
  obtain ⟨i, hi, rfl⟩ := sizeA_some.1 h
  simp [sizeOf, run_info hi]
theorem run_agg {t : TypeId} {b : Bool} (h : isAggA P t = some b) (w : World) : (isAgg t).run P w = .ok b w := by
  simp only [isAggA, ob_some, Option.some.injEq] at h
  obtain ⟨d, hd, rfl⟩ := h
  simp only [isAgg, Sem.run_bind, run_under hd, Result.andThen_ok]
  cases d <;> rfl
theorem run_part {t : TypeId} {c cs : List Value} {off : Nat} {v : Value} (h : partA P t c off = some v) (hc : VRL σ c cs) (x : List Value) (w : World) :
    ∃ v', VR σ v v' ∧ (part t ⟨cs ++ x⟩ off).run P w = .ok v' w := by
  simp only [partA, ob_some] at h
  obtain ⟨b, hb, h⟩ := h
  have hlen := hc.length
  cases b with
  | false =>
    have h' : lget c off = some v := h
    rw [lget_eq] at h'
    obtain ⟨v', hv, hr⟩ := hc.get h'
    have hlt : off < cs.length := by
      rcases Nat.lt_or_ge off cs.length with h' | h'
      · exact h'
      · rw [List.getElem?_eq_none h'] at hv; cases hv
    have : (cs ++ x)[off]? = some v' := by rw [List.getElem?_append_left hlt]; exact hv
    refine ⟨v', hr, ?_⟩
    simp [part, run_agg hb, this]
  | true =>
    have h' : ob (sizeA P t) (fun n => ob (lsub c off n) fun l => some (.agg ⟨l⟩)) = some v := h
    simp only [ob_some, Option.some.injEq] at h'
    obtain ⟨n, hn, l, hl, rfl⟩ := h'
    obtain ⟨rfl, hle⟩ := lsub_some hl
    refine ⟨.agg ⟨(cs.drop off).take n⟩, .agg ((hc.drop off).take n), ?_⟩
    simp only [part, Sem.run_bind, run_agg hb, run_size hn, Result.andThen_ok, if_true, Sem.run_pure]
    congr 2
    apply Array.toList_inj.1
    rw [Array.toList_extract]
    simp only [List.extract_eq_take_drop]
    rw [List.drop_append_of_le_length (by omega), List.take_append_of_le_length (by simp; omega)]
    congr 1
    omega
theorem run_loadA (hR : Rel P σ A w) {t : TypeId} {v u v' : Value} (h : loadA P t A.heap v = some u) (hv : VR σ v v') :
    ∃ u', VR σ u u' ∧ (Instr.loadAt t v').run P w = .ok u' w ∧ ∃ a, v' = .pointer (some a) ∧ (loadVar t a).run P w = .ok u' w := by
  simp only [loadA, ob_some, plainAt_some, rowAt_some, ptrV_some] at h
  obtain ⟨a, rfl, ha, c, e, m, hg, h⟩ := h
  rw [ha] at hv
  obtain ⟨b, d, hs, rfl⟩ := hv.ptr_inv
  obtain ⟨c', e', fz, hw, hr, _⟩ := hR.rowA hs hg
  simp only [partA, ob_some] at h
  obtain ⟨ag, hb, h⟩ := h
  suffices hh : ∃ u', VR σ u u' ∧ (loadVar t ⟨b, a.off, none⟩).run P w = .ok u' w by
    obtain ⟨u', h1, h2⟩ := hh
    exact ⟨u', h1, by simp [Instr.loadAt, Instr.sureAddr, h2], _, rfl, h2⟩
  cases ag with
  | false =>
    have h' : lget c a.off = some u := h
    rw [lget_eq] at h'
    obtain ⟨u', hk, hu⟩ := hr.get h'
    refine ⟨u', hu, ?_⟩
    simp [loadVar, run_agg hb, cell_of hw hk]
  | true =>
    have h' : ob (sizeA P t) (fun n => ob (lsub c a.off n) fun l => some (.agg ⟨l⟩)) = some u := h
    simp only [ob_some, Option.some.injEq] at h'
    obtain ⟨n, hn, l, hl, rfl⟩ := h'
    obtain ⟨rfl, hle⟩ := lsub_some hl
    obtain ⟨cs, x, ec, hc, _⟩ := hr.cells
    have hlen := hc.length
    refine ⟨.agg ⟨(cs.drop a.off).take n⟩, .agg ((hc.drop a.off).take n), ?_⟩
    have hll : ((cs.drop a.off).take n).length = n := by simp; omega
    have hload := run_loadCells_list (P := P) (w := w) ⟨b, a.off, none⟩ ((cs.drop a.off).take n) (fun j v hj => by
      rw [add_plain]
      refine cell_of hw ?_
      rw [← Array.getElem?_toList, ec]
      have hjl : j < n := by
        rcases Nat.lt_or_ge j n with h' | h'
        · exact h'
        · rw [List.getElem?_eq_none (by omega)] at hj; cases hj
      rw [List.getElem?_append_left (by omega)]
      rw [List.getElem?_take, if_pos hjl, List.getElem?_drop] at hj
      exact hj)
    rw [hll] at hload
    simp [loadVar, run_agg hb, run_size hn, hload]
end Go.Ev
end
