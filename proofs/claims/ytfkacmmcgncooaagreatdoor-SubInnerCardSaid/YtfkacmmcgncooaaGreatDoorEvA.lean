/- The evaluator: the program's own operations over an abstract memory, run by the kernel. Definitions alone. -/
import GoSem.Dispatch
import Derived.Calls
import Derived.Wp
noncomputable section
namespace Go.Ev
def ob {α β : Type} (x : Option α) (f : α → Option β) : Option β := Option.rec none f x
def bt {β : Type} (b : Bool) (x : Option β) : Option β := Bool.rec none x b
def bnot (b : Bool) : Bool := Bool.rec true false b
inductive T (α : Type) where
  | e
  | n (l : T α) (v : Option α) (r : T α)
def T.get {α : Type} (t : T α) : Nat → Option α := T.rec (motive := fun _ => Nat → Option α) (fun _ => none)
  (fun _ v _ gl gr k => Nat.rec v (fun k _ => Bool.rec (gr (Nat.div k 2)) (gl (Nat.div k 2)) (Nat.beq (Nat.mod k 2) 0)) k) t
def T.sing {α : Type} (x : α) (f : Nat) : Nat → T α := Nat.rec (motive := fun _ => Nat → T α) (fun _ => .e)
  (fun _ ih k => Nat.rec (.n .e (some x) .e) (fun k _ => Bool.rec (.n .e none (ih (Nat.div k 2))) (.n (ih (Nat.div k 2)) none .e) (Nat.beq (Nat.mod k 2) 0)) k) f
def T.set {α : Type} (t : T α) (k : Nat) (x : α) : T α := T.rec (motive := fun _ => Nat → T α) (fun k => T.sing x (Nat.succ k) k)
  (fun l v r sl sr k => Nat.rec (.n l (some x) r) (fun k _ => Bool.rec (.n l v (sr (Nat.div k 2))) (.n (sl (Nat.div k 2)) v r) (Nat.beq (Nat.mod k 2) 0)) k) t k
def lget {α : Type} (l : List α) : Nat → Option α := List.rec (motive := fun _ => Nat → Option α) (fun _ => none)
  (fun x _ ih k => Nat.rec (some x) (fun k _ => ih k) k) l
def ocons {α : Type} (x : α) (o : Option (List α)) : Option (List α) := ob o fun l => some (x :: l)
def lset {α : Type} (y : α) (l : List α) : Nat → Option (List α) := List.rec (motive := fun _ => Nat → Option (List α)) (fun _ => none)
  (fun x l ih k => Nat.rec (some (y :: l)) (fun k _ => ocons x (ih k)) k) l
def ldrop {α : Type} (n : Nat) : List α → Option (List α) := Nat.rec (motive := fun _ => List α → Option (List α)) some
  (fun _ ih l => List.rec none (fun _ l _ => ih l) l) n
def ltake {α : Type} (n : Nat) : List α → Option (List α) := Nat.rec (motive := fun _ => List α → Option (List α)) (fun _ => some [])
  (fun _ ih l => List.rec none (fun x l _ => ocons x (ih l)) l) n
def lsub {α : Type} (l : List α) (off n : Nat) : Option (List α) := ob (ldrop off l) (ltake n)
def lhead {α : Type} (xs : List α) : List α → Option (List α) := List.rec (motive := fun _ => List α → Option (List α)) some
  (fun x _ ih l => List.rec none (fun _ l _ => ocons x (ih l)) l) xs
def lover {α : Type} (xs : List α) (off : Nat) : List α → Option (List α) := Nat.rec (motive := fun _ => List α → Option (List α)) (lhead xs)
  (fun _ ih l => List.rec none (fun y l _ => ocons y (ih l)) l) off
def lrep {α : Type} (n : Nat) (l : List α) : List α := Nat.rec [] (fun _ ih => l ++ ih) n
def ldel {α : Type} (l : List α) : Nat → List α := List.rec (motive := fun _ => Nat → List α) (fun _ => []) (fun x l ih k => Nat.rec l (fun k _ => x :: ih k) k) l
def lenB {α : Type} (l : List α) : Nat → Bool := List.rec (motive := fun _ => Nat → Bool) (fun n => Nat.rec true (fun _ _ => false) n)
  (fun _ _ ih n => Nat.rec false (fun n _ => ih n) n) l
def omap {α β : Type} (f : α → Option β) (l : List α) : Option (List β) := List.rec (some []) (fun x _ ih => ob (f x) fun y => ocons y ih) l
def lall {α : Type} (f : α → Bool) (l : List α) : Bool := List.rec true (fun v _ ih => Bool.rec false ih (f v)) l
inductive Md where
  | own | ro | grown (cap : Nat) | gro
def Md.roomy : Md → Bool
  | .own | .ro => false
  | .grown _ | .gro => true
def Md.writes : Md → Bool
  | .own | .grown _ => true
  | .ro | .gro => false
inductive AO where
  | row (c : List Value) (elem : TypeId) (m : Md)
  | map (es : List MapEntry) (clock : Nat)
  | dead
structure AW where
  heap : T AO
  next : Nat
def AW.put (A : AW) (id : Nat) (o : AO) : AW := ⟨A.heap.set id o, A.next⟩
def AW.add (A : AW) (o : AO) : AW := ⟨A.heap.set A.next o, Nat.succ A.next⟩
def rowAt (H : T AO) (id : Nat) {β : Type} (f : List Value → TypeId → Md → Option β) : Option β := ob (H.get id) fun o => AO.rec f (fun _ _ => none) none o
def mapAt (H : T AO) (id : Nat) {β : Type} (f : List MapEntry → Nat → Option β) : Option β := ob (H.get id) fun o => AO.rec (fun _ _ _ => none) f none o
def plainAt (a : Addr) {β : Type} (f : Nat → Nat → Option β) : Option β := Option.rec (f a.block a.off) (fun _ => none) a.spot
abbrev SYM : Nat := 1000000007
abbrev UNK : Nat := 1000000008
abbrev MN : Nat := 1000000009
abbrev EXT : Nat := 1000000010
abbrev EXL : Nat := 1000000011
def isX (t : Nat) : Bool := Nat.beq t EXT || Nat.beq t EXL
def sure : Value → Bool
  | .iface t _ => Nat.blt t SYM
  | _ => true
def flat : Value → Bool
  | .bool _ | .int _ _ | .string _ | .pointer none | .slice none 0 0 | .map none | .nilFunc | .nilIface => true
  | _ => false
def flats (l : List Value) : Bool := lall flat l
def flat2 : Value → Bool
  | .agg c => flats c.toList
  | v => flat v
def fnat {α : Type} (n : Nat) (k : Nat → α) : α := Nat.rec (k 0) (fun n _ => k (Nat.succ n)) n
def fint {α : Type} (n : Int) (k : Int → α) : α := Int.rec (fun m => fnat m fun m => k (.ofNat m)) (fun m => fnat m fun m => k (.negSucc m)) n
def boolV (b : Bool) : Option Value := Bool.rec (some (.bool false)) (some (.bool true)) b
def natV (k : IntKind) (n : Nat) : Option Value := fnat n fun n => some (.int k (.ofNat n))
def fval (v : Value) : Option Value := match v with
  | .int i n => fint n fun n => some (.int i n)
  | .bool b => boolV b
  | v => some v
def pureA {α : Type} (P : Program) : Sem α → Option α
  | .pure a => some a
  | .program k => pureA P (k P)
  | _ => none
def flatPure (P : Program) (s : Sem Value) : Option Value := ob (pureA P s) fun v => bt (flat v) (fval v)
def constV (v : Value) : Option Value := bt (flat2 v) (some v)
def opnd (P : Program) (F : T Value) (x : Operand) : Option Value := Operand.rec (fun t => F.get t) (fun v => constV v)
  (fun g => bt (Nat.blt g P.globals.size) (some (.pointer (some ⟨g, 0, none⟩)))) (fun f => some (.func (.func f) #[] #[])) x
def opnds (P : Program) (F : T Value) (l : List Operand) : Option (List Value) := omap (opnd P F) l
def aggD : TypeDesc → Bool
  | .struct _ | .array _ _ => true
  | _ => false
def isAggA (P : Program) (t : TypeId) : Option Bool := ob (P.underlying t) fun d => some (aggD d)
def sizeA (P : Program) (t : TypeId) : Option Nat := ob (P.info? t) fun i => some i.size
def structD : TypeDesc → Option (Array Field)
  | .struct fs => some fs
  | _ => none
def sliceD : TypeDesc → Option TypeId
  | .slice e => some e
  | _ => none
def arrayD : TypeDesc → Option (Nat × TypeId)
  | .array n e => some (n, e)
  | _ => none
def mapD : TypeDesc → Option (TypeId × TypeId)
  | .map k e => some (k, e)
  | _ => none
def ptrD : TypeDesc → Option TypeId
  | .pointer e => some e
  | _ => none
def structT (P : Program) (t : TypeId) : Option (Array Field) := ob (P.underlying t) structD
def sliceT (P : Program) (t : TypeId) : Option TypeId := ob (P.underlying t) sliceD
def arrayT (P : Program) (t : TypeId) : Option (Nat × TypeId) := ob (P.underlying t) arrayD
def mapT (P : Program) (t : TypeId) : Option (TypeId × TypeId) := ob (P.underlying t) mapD
def ptrT (P : Program) (t : TypeId) : Option TypeId := ob (P.underlying t) ptrD
def ptrV (v : Value) : Option Addr := match v with
  | .pointer a => a
  | _ => none
def aggV (v : Value) : Option (List Value) := match v with
  | .agg c => some c.toList
  | _ => none
def numV (v : Value) : Option Nat := match v with
  | .int _ (.ofNat n) => some n
  | _ => none
def mapV (v : Value) : Option (Option Nat) := match v with
  | .map m => some m
  | _ => none
def strV (v : Value) : Option (List UInt8) := match v with
  | .string s => some s.data.toList
  | _ => none
def mkStr (l : List UInt8) : Value := .string ⟨⟨l⟩⟩
def notU : Value → Bool
  | .iface t _ => bnot (Nat.beq t UNK)
  | _ => true
def oneK (v : Value) : Bool := Bool.rec false (Value.oneCell v) (notU v)
def cellsA : Value → List Value
  | .agg c => c.toList
  | v => [v]
def partA (P : Program) (t : TypeId) (c : List Value) (off : Nat) : Option Value := ob (isAggA P t) fun b =>
  Bool.rec (lget c off) (ob (sizeA P t) fun n => ob (lsub c off n) fun l => some (.agg ⟨l⟩)) b
def loadA (P : Program) (t : TypeId) (H : T AO) (v : Value) : Option Value := ob (ptrV v) fun a => plainAt a fun b o => rowAt H b fun c _ _ => partA P t c o
def storeA (P : Program) (t : TypeId) (A : AW) (p v : Value) : Option AW := ob (ptrV p) fun a => plainAt a fun b o => ob (sizeA P t) fun n =>
  bt (lenB (cellsA v) n) (bt (lall oneK (cellsA v)) (rowAt A.heap b fun c e m => bt m.writes (ob (lover (cellsA v) o c) fun c' => some (A.put b (.row c' e m)))))
def zeroA (P : Program) (t : TypeId) : Option (List Value) := ob (P.info? t) fun i => ob i.zero fun v => bt (flats (cellsA v)) (some (cellsA v))
def fillA (place : Nat → Option (Nat × Nat)) (ps : List (Nat × Value)) : List Value → Option (List Value) :=
  List.rec (motive := fun _ => List Value → Option (List Value)) some (fun p _ ih c => ob (place p.1) fun q =>
    bt (notU p.2) (bt (lenB (cellsA p.2) q.2) (ob (lover (cellsA p.2) q.1 c) ih))) ps
def placesA (P : Program) (fs : List Field) : Option (List (Nat × Nat)) := omap (fun f => ob (sizeA P f.type) fun n => some (f.offset, n)) fs
def partsA (P : Program) (F : T Value) (l : List (Nat × Operand)) : Option (List (Nat × Value)) := omap (fun p => ob (opnd P F p.2) fun v => some (p.1, v)) l
def evenly (n : Nat) (i : Nat) : Option (Nat × Nat) := some (Nat.mul i n, n)
def buildS (P : Program) (z : List Value) (parts : List (Nat × Value)) (fs : Array Field) : Option Value := ob (placesA P fs.toList) fun pl =>
  ob (fillA (lget pl) parts z) fun c => some (.agg ⟨c⟩)
def buildR (P : Program) (z : List Value) (parts : List (Nat × Value)) (e : TypeId) : Option Value := ob (sizeA P e) fun n =>
  ob (fillA (evenly n) parts z) fun c => some (.agg ⟨c⟩)
def buildA (P : Program) (t : TypeId) (parts : List (Nat × Value)) : Option Value := ob (zeroA P t) fun z => ob (P.underlying t) fun d => match d with
  | .struct fs => buildS P z parts fs
  | .array _ e => buildR P z parts e
  | _ => none
def newSlice (A : AW) (len cap : Nat) (c : List Value) (e : TypeId) (m : Md) : Option (Value × AW) := some (.slice (some ⟨A.next, 0, none⟩) len cap, A.add (.row c e m))
def buildSliceA (P : Program) (t : TypeId) (len : Nat) (parts : List (Nat × Value)) (A : AW) : Option (Value × AW) := ob (sliceT P t) fun e =>
  ob (sizeA P e) fun n => ob (zeroA P e) fun z => bt (lenB z n) (bt (Nat.ble (Nat.mul len n) 16777216)
    (ob (fillA (evenly n) parts (lrep len z)) fun c => newSlice A len len c e .own))
def ptrTo (b o : Nat) : Option Value := fnat o fun o => some (.pointer (some ⟨b, o, none⟩))
def fieldAddrA (P : Program) (s : TypeId) (v : Value) (f : Nat) : Option Value := ob (structT P s) fun fs => ob (lget fs.toList f) fun fd =>
  ob (sizeA P fd.type) fun n => bt (Nat.blt 0 n) (ob (ptrV v) fun a => plainAt a fun b o => ptrTo b (Nat.add o fd.offset))
def fieldA (P : Program) (t : TypeId) (v : Value) (f : Nat) : Option Value := ob (structT P t) fun fs => ob (aggV v) fun c => ob (lget fs.toList f) fun fd => partA P fd.type c fd.offset
def idxAt (P : Program) (a : Addr) (e : TypeId) (i : Value) (len : Nat) : Option Value := plainAt a fun b o => ob (numV i) fun i => bt (Nat.blt i len)
  (ob (sizeA P e) fun n => ptrTo b (Nat.add o (Nat.mul i n)))
def indexAddrA (P : Program) (t : TypeId) (x i : Value) : Option Value := ob (P.underlying t) fun d => match d with
  | .array len e => ob (ptrV x) fun a => idxAt P a e i len
  | .slice e => match x with
    | .slice a len _ => ob a fun a => idxAt P a e i len
    | _ => none
  | _ => none
def indexA (P : Program) (t : TypeId) (x i : Value) : Option Value := ob (P.underlying t) fun d => match d with
  | .array len e => ob (aggV x) fun c => ob (numV i) fun i => bt (Nat.blt i len) (ob (sizeA P e) fun n => partA P e c (Nat.mul i n))
  | .string => ob (strV x) fun s => ob (numV i) fun i => ob (lget s i) fun b => natV .u8 b.toNat
  | _ => none
def upto (v : Value) (n : Nat) : Option Nat := ob (numV v) fun i => bt (Nat.ble i n) (some i)
def uptoOr (v : Option Value) (n d : Nat) : Option Nat := Option.rec (some d) (fun v => upto v n) v
def boundsA (len cap : Nat) (lo hi : Option Value) : Option (Nat × Nat) := ob (uptoOr hi cap len) fun h => ob (uptoOr lo h 0) fun l => some (l, h)
def optOp (P : Program) (F : T Value) (x : Option Operand) : Option (Option Value) := Option.rec (some none) (fun x => ob (opnd P F x) fun v => some (some v)) x
def sliceOk (r : Bool) (l cap : Nat) : Bool := Bool.rec true (Nat.rec true (fun _ _ => Nat.blt l cap) l) r
def cutAt (b o l n cap len' : Nat) : Option Value := fnat (Nat.sub cap l) fun c => fnat (Bool.rec (Nat.add o (Nat.mul l n)) o (Nat.beq cap l)) fun o =>
  fnat len' fun k => some (.slice (some ⟨b, o, none⟩) k c)
def sliceS (s : List UInt8) (lo hi mx : Option Value) : Option Value := Option.rec (fnat s.length fun n => ob (boundsA n n lo hi) fun p =>
  ob (lsub s p.1 (Nat.sub p.2 p.1)) fun b => some (mkStr b)) (fun _ => none) mx
def empV : Value := .iface UNK (.slice none 0 0)
def slice2 (r : Bool) (b o len cap n : Nat) (lo hi : Option Value) : Option Value := ob (boundsA len (Bool.rec cap len r) lo hi) fun p =>
  bt (Nat.ble p.2 cap) (Bool.rec (bt (Nat.beq p.2 p.1) (some empV)) (cutAt b o p.1 n cap (Nat.sub p.2 p.1)) (sliceOk r p.1 cap))
def slice3 (r : Bool) (b o len cap n : Nat) (lo hi : Option Value) (mx : Value) : Option Value := Bool.rec (ob hi fun hv => ob (upto mx cap) fun m =>
  ob (boundsA len m lo (some hv)) fun p => cutAt b o p.1 n m (Nat.sub p.2 p.1)) none r
def sliceN (lo hi mx : Option Value) : Option Value := Option.rec (ob (boundsA 0 0 lo hi) fun _ => some (.slice none 0 0)) (fun _ => none) mx
def sliceL (P : Program) (H : T AO) (e : TypeId) (x : Value) (lo hi mx : Option Value) : Option Value := match x with
  | .slice a len cap => ob (sizeA P e) fun n => Option.rec (bt (Nat.beq (Nat.add len cap) 0) (sliceN lo hi mx))
    (fun a => plainAt a fun b o => rowAt H b fun _ _ m => Option.rec (slice2 m.roomy b o len cap n lo hi) (fun mx => slice3 m.roomy b o len cap n lo hi mx) mx) a
  | _ => none
def sliceR (P : Program) (H : T AO) (n : Nat) (e : TypeId) (x : Value) (lo hi mx : Option Value) : Option Value := ob (ptrV x) fun a => plainAt a fun b o =>
  ob (sizeA P e) fun sz => rowAt H b fun _ _ m => bt (bnot m.roomy) (Option.rec (ob (boundsA n n lo hi) fun p => bt (Nat.ble p.2 n) (cutAt b o p.1 sz n (Nat.sub p.2 p.1))) (fun _ => none) mx)
def sliceA (P : Program) (H : T AO) (t : TypeId) (x : Value) (lo hi mx : Option Value) : Option Value := ob (P.underlying t) fun d => match d with
  | .string => ob (strV x) fun s => sliceS s lo hi mx
  | .slice e => sliceL P H e x lo hi mx
  | .array n e => sliceR P H n e x lo hi mx
  | _ => none
def bytesEq (l : List UInt8) : List UInt8 → Bool := List.rec (motive := fun _ => List UInt8 → Bool) (fun m => List.rec true (fun _ _ _ => false) m)
  (fun a _ ih m => List.rec false (fun b m _ => Bool.rec false (ih m) (Nat.beq a.toNat b.toNat)) m) l
def isConstO : Operand → Bool
  | .const _ => true
  | _ => false
def nilEq (P : Program) (t : TypeId) (x y : Value) : Option Bool := match P.underlying t, x, y with
  | some (.pointer _), .pointer a, .pointer none => some a.isNone
  | some (.pointer _), .pointer none, .pointer (some _) => some false
  | some (.slice _), .slice a _ _, .slice none 0 0 => some a.isNone
  | some (.map _ _), .map a, .map none => some a.isNone
  | some (.func _ _ _), .nilFunc, .nilFunc => some true
  | some (.func _ _ _), .func _ _ _, .nilFunc => some false
  | some (.interface _), .nilIface, .nilIface => some true
  | some (.interface _), .iface u _, .nilIface => bt (Nat.blt u SYM) (some false)
  | _, _, _ => none
def ptrEq (P : Program) (t : TypeId) (a b : Addr) : Option Bool := ob (ptrT P t) fun e => ob (sizeA P e) fun n => bt (Nat.blt 0 n)
  (plainAt a fun i o => plainAt b fun j p => bt (Nat.beq i j) (some (Nat.beq o p)))
def lim : IntKind → Nat
  | .i8 => 128
  | .i16 => 32768
  | .i32 => 2147483648
  | .i64 => 9223372036854775808
  | .u8 => 256
  | .u16 => 65536
  | .u32 => 4294967296
  | .u64 => 18446744073709551616
def unsig : IntKind → Bool
  | .u8 | .u16 | .u32 | .u64 => true
  | _ => false
def nbits : IntKind → Nat
  | .i8 | .u8 => 8
  | .i16 | .u16 => 16
  | .i32 | .u32 => 32
  | .i64 | .u64 => 64
def within (k : IntKind) (n : Nat) : Option Value := Bool.rec (bt (unsig k) (natV k (Nat.mod n (lim k)))) (natV k n) (Nat.blt n (lim k))
def nAdd (k : IntKind) (a b : Nat) : Option Value := within k (Nat.add a b)
def nMul (k : IntKind) (a b : Nat) : Option Value := within k (Nat.mul a b)
def nSub (k : IntKind) (a b : Nat) : Option Value := bt (Nat.ble b a) (within k (Nat.sub a b))
def nQuo (k : IntKind) (a b : Nat) : Option Value := bt (Nat.blt 0 b) (within k (Nat.div a b))
def nRem (k : IntKind) (a b : Nat) : Option Value := bt (Nat.blt 0 b) (natV k (Nat.mod a b))
def nBits (f : Nat → Nat → Nat) (k : IntKind) (a b : Nat) : Option Value := bt (Nat.blt a (lim k)) (bt (Nat.blt b (lim k)) (within k (f a b)))
def nShl (k : IntKind) (a b : Nat) : Option Value := bt (Nat.ble b (nbits k)) (within k (Nat.mul a (Nat.pow 2 b)))
def nShr (k : IntKind) (a b : Nat) : Option Value := bt (Nat.ble b (nbits k)) (natV k (Nat.div a (Nat.pow 2 b)))
def nEq (_ : IntKind) (a b : Nat) : Option Value := boolV (Nat.beq a b)
def nNe (_ : IntKind) (a b : Nat) : Option Value := boolV (bnot (Nat.beq a b))
def nLt (_ : IntKind) (a b : Nat) : Option Value := boolV (Nat.blt a b)
def nLe (_ : IntKind) (a b : Nat) : Option Value := boolV (Nat.ble a b)
def nGt (_ : IntKind) (a b : Nat) : Option Value := boolV (Nat.blt b a)
def nGe (_ : IntKind) (a b : Nat) : Option Value := boolV (Nat.ble b a)
def nOp : BinOp → IntKind → Nat → Nat → Option Value
  | .add => nAdd
  | .sub => nSub
  | .mul => nMul
  | .quo => nQuo
  | .rem => nRem
  | .and => nBits Nat.land
  | .or => nBits Nat.lor
  | .xor => nBits Nat.xor
  | .shl => nShl
  | .shr => nShr
  | .eql => nEq
  | .neq => nNe
  | .lss => nLt
  | .leq => nLe
  | .gtr => nGt
  | .geq => nGe
  | .andNot => fun _ _ _ => none
def isShift : BinOp → Bool
  | .shl | .shr => true
  | _ => false
def kindNo : IntKind → Nat
  | .i8 => 0
  | .i16 => 1
  | .i32 => 2
  | .i64 => 3
  | .u8 => 4
  | .u16 => 5
  | .u32 => 6
  | .u64 => 7
def sameK (j k : IntKind) : Bool := Nat.beq (kindNo j) (kindNo k)
def slowInt (P : Program) (op : BinOp) (t : TypeId) (j : IntKind) (a : Int) (k : IntKind) (b : Int) : Option Value := flatPure P (binOp op t (.int j a) (.int k b))
def orElse (x y : Option Value) : Option Value := Option.rec y some x
def intOp (P : Program) (op : BinOp) (t : TypeId) (j : IntKind) (a : Int) (k : IntKind) (b : Int) : Option Value := Int.rec
  (fun m => Int.rec (fun n => bt (Bool.rec (sameK j k) true (isShift op)) (orElse (nOp op j m n) (slowInt P op t j (.ofNat m) k (.ofNat n)))) (fun n => slowInt P op t j (.ofNat m) k (.negSucc n)) b)
  (fun m => slowInt P op t j (.negSucc m) k b) a
def strOp (op : BinOp) (a b : List UInt8) : Option Value := match op with
  | .add => bt (Nat.ble (Nat.add a.length b.length) 1099511627776) (some (mkStr (a ++ b)))
  | .eql => boolV (bytesEq a b)
  | .neq => boolV (bnot (bytesEq a b))
  | _ => none
def ofEq (op : BinOp) (b : Bool) : Option Value := match op with
  | .eql => boolV b
  | .neq => boolV (bnot b)
  | _ => none
def boolD : TypeDesc → Bool
  | .bool => true
  | _ => false
def boolOp (P : Program) (op : BinOp) (t : TypeId) (a b : Bool) : Option Value := ob (P.underlying t) fun d => bt (boolD d) (ofEq op (Bool.rec (bnot b) b a))
def eqOp : BinOp → Bool
  | .eql | .neq => true
  | _ => false
def aggOp (P : Program) (op : BinOp) (t : TypeId) (xo yo : Operand) (x y : Value) : Option Value := bt (eqOp op) (bt (flat2 x) (bt (flat2 y)
  (flatPure P (do eqGuard op t xo yo x y; binOp op t x y))))
def nilOp (P : Program) (op : BinOp) (t : TypeId) (xo yo : Operand) (x y : Value) : Option Value := bt (Bool.rec (isConstO yo) true (isConstO xo)) (ob (nilEq P t x y) (ofEq op))
def ptrOp (P : Program) (op : BinOp) (t : TypeId) (xo yo : Operand) (a : Addr) (y : Value) : Option Value := match y with
  | .pointer (some b) => ob (ptrEq P t a b) (ofEq op)
  | y => nilOp P op t xo yo (.pointer (some a)) y
def binA (P : Program) (op : BinOp) (t : TypeId) (xo yo : Operand) (x y : Value) : Option Value := match x with
  | .int j a => match y with
    | .int k b => intOp P op t j a k b
    | _ => none
  | .string a => match y with
    | .string b => strOp op a.data.toList b.data.toList
    | _ => none
  | .bool a => match y with
    | .bool b => boolOp P op t a b
    | _ => none
  | .agg c => match y with
    | .agg d => aggOp P op t xo yo (.agg c) (.agg d)
    | _ => none
  | .pointer (some a) => ptrOp P op t xo yo a y
  | x => nilOp P op t xo yo x y
def nilCheckA : Value → Option Value
  | .pointer (some a) => some (.pointer (some a))
  | .func (.func f) x y => some (.func (.func f) x y)
  | _ => none
def keyD : TypeDesc → Bool
  | .int _ | .string | .bool => true
  | _ => false
def zero2 (P : Program) (t : TypeId) : Option Value := ob (P.info? t) fun i => ob i.zero fun z => bt (flat2 z) (some z)
def okV (ok : Bool) (v : Value) (b : Bool) : Option Value := Bool.rec (some v) (some (.tuple #[v, .bool b])) ok
def entriesA (H : T AO) (m : Value) : Option (List MapEntry) := ob (mapV m) fun r => Option.rec (some []) (fun r => mapAt H r fun es _ => some es) r
def lookupA (P : Program) (H : T AO) (t : TypeId) (m k : Value) (ok : Bool) : Option Value := ob (mapT P t) fun q => bt (flat k) (ob (P.underlying q.1) fun kd => bt (keyD kd)
  (ob (entriesA H m) fun es => ob (Instr.findNow kd k es 0) fun r => Option.rec (ob (zero2 P q.2) fun z => okV ok z false) (fun x => okV ok x.2 true) r))
def mapSet (es : List MapEntry) (clock : Nat) (k v : Value) (r : Option (Nat × Value)) : Option (List MapEntry × Nat) := Option.rec
  (some (es ++ [{ key := k, val := v, born := clock }], Nat.succ clock))
  (fun x => ob (lget es x.1) fun e => ob (lset { key := k, val := v, born := e.born } es x.1) fun es' => some (es', clock)) r
def mapUpdateA (P : Program) (t : TypeId) (A : AW) (m k v : Value) : Option AW := ob (mapT P t) fun q => bt (flat k) (ob (P.underlying q.1) fun kd => bt (keyD kd)
  (ob (mapV m) fun r => ob r fun r => mapAt A.heap r fun es clock => ob (Instr.findNow kd k es 0) fun x => ob (mapSet es clock k v x) fun y => some (A.put r (.map y.1 y.2))))
def deleteA (P : Program) (t : TypeId) (A : AW) (m k : Value) : Option AW := ob (mapT P t) fun q => bt (flat k) (ob (P.underlying q.1) fun kd => bt (keyD kd)
  (ob (mapV m) fun r => ob r fun r => mapAt A.heap r fun es clock => ob (Instr.findNow kd k es 0) fun x => Option.rec (some A) (fun x => some (A.put r (.map (ldel es x.1) clock))) x))
def lenA (P : Program) (H : T AO) (t : TypeId) (x : Value) : Option Value := ob (P.underlying t) fun d => match d with
  | .string => ob (strV x) fun s => natV .i64 s.length
  | .slice _ => match x with
    | .slice _ n _ => natV .i64 n
    | _ => none
  | .array n _ => natV .i64 n
  | .map _ _ => ob (entriesA H x) fun es => natV .i64 es.length
  | _ => none
def capA (P : Program) (H : T AO) (t : TypeId) (x : Value) : Option Value := ob (sliceT P t) fun _ => match x with
  | .slice a _ n => Option.rec (natV .i64 n) (fun a => rowAt H a.block fun _ _ m => bt (bnot m.roomy) (natV .i64 n)) a
  | _ => none
def unsafeD : TypeDesc → Bool
  | .unsafePointer => true
  | _ => false
def ptrOut (P : Program) (H : T AO) (src dst : TypeId) (a : Addr) : Option Value := ob (ptrT P src) fun t => ob (P.underlying dst) fun d => bt (unsafeD d)
  (ob (sizeA P t) fun n => bt (Nat.blt 0 n) (plainAt a fun b o => rowAt H b fun c _ m => bt (bnot m.roomy) (ob (lget c o) fun _ => some (.pointer (some a)))))
def ptrIn (P : Program) (H : T AO) (src dst : TypeId) (a : Addr) : Option Value := ob (P.underlying src) fun d => bt (unsafeD d) (ob (ptrT P dst) fun u =>
  ob (sizeA P u) fun _ => plainAt a fun b o => rowAt H b fun c e m => bt m.writes (bt (bnot m.roomy) (bt (liesAt P P.depth e (c.length / P.cellsOf e) o u 1) (some (.pointer (some a))))))
def ptrConvA (P : Program) (H : T AO) (src dst : TypeId) (a : Addr) : Option Value := orElse (ptrOut P H src dst a) (ptrIn P H src dst a)
def qMove (x : Operand) (P : Program) (F : T Value) (_ : T AO) : Option Value := opnd P F x
def boolOf (v : Value) : Option Bool := match v with
  | .bool b => some b
  | _ => none
def qPick (c a b : Operand) (P : Program) (F : T Value) (_ : T AO) : Option Value := ob (opnd P F c) fun v => ob (boolOf v) fun t => Bool.rec (opnd P F b) (opnd P F a) t
def qLoad (t : TypeId) (a : Operand) (P : Program) (F : T Value) (H : T AO) : Option Value := ob (opnd P F a) (loadA P t H)
def qNil (x : Operand) (P : Program) (F : T Value) (_ : T AO) : Option Value := ob (opnd P F x) nilCheckA
def qBuild (t : TypeId) (parts : Array (Nat × Operand)) (P : Program) (F : T Value) (_ : T AO) : Option Value := ob (partsA P F parts.toList) (buildA P t)
def qBin (op : BinOp) (t : TypeId) (x y : Operand) (P : Program) (F : T Value) (_ : T AO) : Option Value := ob (opnd P F x) fun a => ob (opnd P F y) fun b => binA P op t x y a b
def qUn (op : UnOp) (x : Operand) (P : Program) (F : T Value) (_ : T AO) : Option Value := ob (opnd P F x) fun v => bt (flat v) (flatPure P (Op.unary op v))
def intD : TypeDesc → Option IntKind
  | .int k => some k
  | _ => none
def convInt (P : Program) (s d : TypeId) (n : Int) : Option Value := ob (P.underlying s) fun _ => ob (P.underlying d) fun e => ob (intD e) fun k =>
  Int.rec (fun m => Bool.rec (flatPure P (Conv.intToInt k (.ofNat m))) (natV k m) (Nat.blt m (lim k))) (fun m => flatPure P (Conv.intToInt k (.negSucc m))) n
def qConv (s d : TypeId) (x : Operand) (P : Program) (F : T Value) (H : T AO) : Option Value := ob (opnd P F x) fun v => match v with
  | .int _ n => convInt P s d n
  | .pointer a => ob a (ptrConvA P H s d)
  | _ => none
def ifaceD : TypeDesc → Bool
  | .interface _ => true
  | _ => false
def qIface (t : TypeId) (x : Operand) (P : Program) (F : T Value) (_ : T AO) : Option Value := ob (opnd P F x) fun v => ob (P.underlying t) fun d => bt (bnot (ifaceD d)) (bt (Nat.blt t SYM) (some (.iface t v)))
def qFunc (fn : Fn) (a c : Array Operand) (P : Program) (F : T Value) (_ : T AO) : Option Value := ob (opnds P F a.toList) fun a => ob (opnds P F c.toList) fun c => some (.func fn ⟨a⟩ ⟨c⟩)
def qSlice (t : TypeId) (x : Operand) (lo hi mx : Option Operand) (P : Program) (F : T Value) (H : T AO) : Option Value := ob (opnd P F x) fun x =>
  ob (optOp P F lo) fun lo => ob (optOp P F hi) fun hi => ob (optOp P F mx) fun mx => sliceA P H t x lo hi mx
def qArr (t : TypeId) (x : Operand) (P : Program) (F : T Value) (_ : T AO) : Option Value := ob (arrayT P t) fun q => ob (opnd P F x) fun v => match v with
  | .slice a len _ => ob a fun a => bt (Nat.ble q.1 len) (some (.pointer (some a)))
  | _ => none
def qFieldAddr (s : TypeId) (x : Operand) (f : Nat) (P : Program) (F : T Value) (_ : T AO) : Option Value := ob (opnd P F x) fun v => fieldAddrA P s v f
def qField (t : TypeId) (x : Operand) (f : Nat) (P : Program) (F : T Value) (_ : T AO) : Option Value := ob (opnd P F x) fun v => fieldA P t v f
def qIndexAddr (t : TypeId) (x i : Operand) (P : Program) (F : T Value) (_ : T AO) : Option Value := ob (opnd P F x) fun v => ob (opnd P F i) fun i => indexAddrA P t v i
def qIndex (t : TypeId) (x i : Operand) (P : Program) (F : T Value) (_ : T AO) : Option Value := ob (opnd P F x) fun v => ob (opnd P F i) fun i => indexA P t v i
def qLookup (t : TypeId) (x k : Operand) (ok : Bool) (P : Program) (F : T Value) (H : T AO) : Option Value := ob (opnd P F x) fun m => ob (opnd P F k) fun k => lookupA P H t m k ok
def tupV (v : Value) : Option (List Value) := match v with
  | .tuple vs => some vs.toList
  | _ => none
def qExtract (x : Operand) (i : Nat) (P : Program) (F : T Value) (_ : T AO) : Option Value := ob (opnd P F x) fun v => ob (tupV v) fun vs => lget vs i
def qOne (g : Program → T AO → TypeId → Value → Option Value) (c : Call) (P : Program) (F : T Value) (H : T AO) : Option Value := ob (lget c.argTypes.toList 0) fun t =>
  ob (lget c.args.toList 0) fun x => ob (opnd P F x) (g P H t)
def qMinMax (f : Array Value → Sem Value) (c : Call) (P : Program) (F : T Value) (_ : T AO) : Option Value := ob (opnds P F c.args.toList) fun vs => bt (flats vs) (flatPure P (f ⟨vs⟩))
def dataV (v : Value) : Option Value := match v with
  | .slice none _ _ => some (.pointer none)
  | .slice (some a) _ (_ + 1) => some (.pointer (some a))
  | _ => none
def qData (c : Call) (P : Program) (F : T Value) (_ : T AO) : Option Value := match c.args.toList with
  | [x] => ob (opnd P F x) dataV
  | _ => none
def qNone (_ : Program) (_ : T Value) (_ : T AO) : Option Value := none
def qBuiltin : Builtin → Call → Program → T Value → T AO → Option Value
  | .len => qOne lenA
  | .cap => qOne capA
  | .min => qMinMax (Builtin.min_ #[] 0)
  | .max => qMinMax (Builtin.max_ #[] 0)
  | .unsafeSliceData => qData
  | _ => fun _ => qNone
def qCall (c : Call) : Program → T Value → T AO → Option Value := match c.callee with
  | .builtin b => qBuiltin b c
  | _ => qNone
def evQ (o : Op) : Program → T Value → T AO → Option Value := match o with
  | .move x => qMove x
  | .assign x => qMove x
  | .pick c a b => qPick c a b
  | .load t a => qLoad t a
  | .nilCheck x => qNil x
  | .build t parts => qBuild t parts
  | .binOp op t x y _ => qBin op t x y
  | .unOp op _ x => qUn op x
  | .convert s d x => qConv s d x
  | .makeInterface t x => qIface t x
  | .makeFunc fn a c => qFunc fn a c
  | .slice t x lo hi mx => qSlice t x lo hi mx
  | .sliceToArrayPointer t x => qArr t x
  | .fieldAddr s x f => qFieldAddr s x f
  | .field t x f => qField t x f
  | .indexAddr t x i => qIndexAddr t x i
  | .index t x i => qIndex t x i
  | .lookup t x k ok => qLookup t x k ok
  | .extract x i => qExtract x i
  | .call c => qCall c
  | _ => qNone
def quietB : Builtin → Bool
  | .len | .cap | .min | .max | .unsafeSliceData => true
  | _ => false
def convE : TypeDesc → Bool
  | .slice _ | .string => true
  | _ => false
def isE (P : Program) : Op → Bool
  | .alloc _ | .box .. | .buildSlice .. | .insert .. | .store .. | .makeMap .. | .makeSlice .. | .mapUpdate .. | .defer _ => true
  | .convert _ d _ => Option.rec false convE (P.underlying d)
  | .call c => match c.callee with
    | .builtin b => bnot (quietB b)
    | _ => true
  | _ => false
def byteOf' (b : UInt8) : Value := .int .u8 (.ofNat b.toNat)
def srcA (H : T AO) (size : Nat) (n : Nat) (v : Value) : Option (List Value) := match v with
  | .slice a _ _ => Option.rec (some []) (fun a => plainAt a fun b o => rowAt H b fun c _ _ => lsub c o (Nat.mul n size)) a
  | .string s => bt (Nat.beq size 1) (ob (ltake n s.data.toList) fun l => some (l.map byteOf'))
  | .iface t (.slice none 0 0) => bt (Nat.beq t UNK) (bt (Nat.beq n 0) (some []))
  | _ => none
def lenV (v : Value) : Option Nat := match v with
  | .slice _ n _ => some n
  | .string s => fnat s.data.toList.length some
  | .iface t (.slice none 0 0) => bt (Nat.beq t UNK) (some 0)
  | _ => none
def few (n by_ : Nat) : Bool := Nat.ble (Nat.mul n (Nat.succ by_)) 1073741824
def appGrown (A : AW) (e : TypeId) (sz by_ : Nat) (b o len cap : Nat) (c : List Value) (e' : TypeId) (rc m : Nat) (xs : List Value) : Option (Value × AW) :=
  bt (Nat.beq e e') (bt (Nat.beq o 0) (bt (lenB c (Nat.mul len sz)) (bt (Nat.beq cap rc && Nat.ble len rc) (bt (few (Nat.add len m) by_) (bt (lall oneK xs)
    (fnat (Nat.add len m) fun n => fnat (Bool.rec n rc (Nat.ble n rc)) fun k => newSlice (A.put b .dead) n k (c ++ xs) e (.grown k)))))))
def appOwn (A : AW) (e : TypeId) (sz by_ : Nat) (b o len cap : Nat) (c : List Value) (e' : TypeId) (md : Md) (m : Nat) (xs : List Value) : Option (Value × AW) := Bool.rec
  (bt (few (Nat.add len m) by_) (ob (lsub c o (Nat.mul len sz)) fun old => fnat (Nat.add len m) fun n => newSlice A n n (old ++ xs) e (.grown n)))
  (bt md.writes (bt (lall oneK xs) (ob (lover xs (Nat.add o (Nat.mul len sz)) c) fun c' => fnat (Nat.add len m) fun n => some (.slice (some ⟨b, o, none⟩) n cap, A.put b (.row c' e' md)))))
  (Nat.ble (Nat.add len m) cap)
def appNil (A : AW) (e : TypeId) (by_ m : Nat) (xs : List Value) : Option (Value × AW) := Nat.rec (some (.slice none 0 0, A)) (fun _ _ => bt (few m by_) (newSlice A m m xs e (.grown m))) m
def notInt (d : TypeDesc) : Bool := Option.rec true (fun _ => false) (intD d)
def appTo (A : AW) (e : TypeId) (sz by_ m : Nat) (xs : List Value) (s : Value) : Option (Value × AW) := match s with
  | .slice a len cap => Option.rec (bt (Nat.beq cap 0) (appNil A e by_ m xs)) (fun a => plainAt a fun b o => rowAt A.heap b fun c e' md => match md with
    | .grown rc => appGrown A e sz by_ b o len cap c e' rc m xs
    | .gro => none
    | md => appOwn A e sz by_ b o len cap c e' md m xs) a
  | _ => none
def appendA (P : Program) (t : TypeId) (xt : Option TypeId) (A : AW) (s x : Value) : Option (Value × AW) := ob (sliceT P t) fun e => ob xt fun xt => ob (P.underlying xt) fun xd => bt (notInt xd)
  (ob (P.info? e) fun i => ob i.zero fun z => bt (lenB (cellsA z) i.size) (ob (lenV x) fun m => ob (srcA A.heap i.size m x) fun xs => bt (lenB xs (Nat.mul m i.size)) (appTo A e i.size i.bytes m xs s)))
def copyA (P : Program) (t : TypeId) (A : AW) (d s : Value) : Option (Value × AW) := ob (sliceT P t) fun e => ob (sizeA P e) fun sz => ob (lenV s) fun m => match d with
  | .slice a len _ => fnat (Bool.rec len m (Nat.ble m len)) fun n => ob (srcA A.heap sz n s) fun xs => Option.rec (ob (natV .i64 n) fun v => some (v, A))
    (fun a => plainAt a fun b o => rowAt A.heap b fun c e' md => bt md.writes (bt (lall oneK xs) (ob (lover xs o c) fun c' => ob (natV .i64 n) fun v => some (v, A.put b (.row c' e' md))))) a
  | _ => none
def i64V (v : Value) : Option Nat := match v with
  | .int .i64 (.ofNat n) => some n
  | _ => none
def makeSliceA (P : Program) (t : TypeId) (A : AW) (l c : Value) : Option (Value × AW) := ob (sliceT P t) fun e => ob (i64V l) fun l => ob (i64V c) fun c =>
  ob (zeroA P e) fun z => ob (P.info? e) fun i => bt (lenB z i.size) (bt (Nat.ble l c) (bt (few c i.bytes) (newSlice A l c (lrep c z) e .own)))
def byteV (v : Value) : Option UInt8 := match v with
  | .int .u8 (.ofNat n) => some (UInt8.ofNat n)
  | _ => none
def byteW (v : Value) : Option UInt8 := match v with
  | .int .u8 (.ofNat n) => bt (Nat.blt n 256) (some (UInt8.ofNat n))
  | _ => none
def shut (m : Md) : Md := match m with
  | .own | .ro => .ro
  | .grown _ | .gro => .gro
def unsafeStringA (P : Program) (t : TypeId) (A : AW) (p n : Value) : Option (Value × AW) := ob (ptrT P t) fun u => ob (i64V n) fun n => bt (Nat.blt n 1073741824) (match p with
  | .pointer a => Nat.rec (some (mkStr [], A)) (fun _ _ => ob a fun a => plainAt a fun b o => bt (Nat.beq o 0) (rowAt A.heap b fun c e md => bt md.writes (bt (Nat.beq e u) (ob (sizeA P e) fun sz => bt (Nat.beq sz 1)
    (ob (ltake n c) fun l => ob (omap byteW l) fun bs => some (mkStr bs, A.put b (.row c e (shut md)))))))) n
  | _ => none)
def u8D : TypeDesc → Bool
  | .int .u8 => true
  | _ => false
def toBytes (P : Program) (A : AW) (e : TypeId) (x : Value) : Option (Value × AW) := ob (P.underlying e) fun d => bt (u8D d) (ob (sizeA P e) fun sz => bt (Nat.beq sz 1) (ob (strV x) fun s => fnat s.length fun n =>
  newSlice A n n (s.map byteOf') e (.grown n)))
def toStr (P : Program) (A : AW) (e : TypeId) (x : Value) : Option (Value × AW) := ob (P.underlying e) fun d => bt (u8D d) (match x with
  | .slice _ len _ => ob (srcA A.heap 1 len x) fun l => ob (omap byteV l) fun bs => some (mkStr bs, A)
  | _ => none)
def strD : TypeDesc → Bool
  | .string => true
  | _ => false
def convA (P : Program) (src dst : TypeId) (A : AW) (x : Value) : Option (Value × AW) := ob (P.underlying src) fun sd => ob (P.underlying dst) fun dd => match dd with
  | .slice e => bt (strD sd) (toBytes P A e x)
  | .string => match sd with
    | .slice e => toStr P A e x
    | .string => ob (strV x) fun _ => some (x, A)
    | _ => none
  | _ => none
inductive Fx where
  | val (v : Value) (A : AW)
  | enter (f : FuncId) (args : List Value) (A : AW)
  | defr (d : Deferred) (A : AW)
def fxv (x : Option (Value × AW)) : Option Fx := ob x fun p => some (.val p.1 p.2)
def fxu (x : Option AW) : Option Fx := ob x fun A => some (.val (.tuple #[]) A)
def newPtr (A : AW) (c : List Value) (e : TypeId) : Option Fx := some (.val (.pointer (some ⟨A.next, 0, none⟩)) (A.add (.row c e .own)))
def eAlloc (e : TypeId) (P : Program) (_ : T Value) (A : AW) : Option Fx := ob (zeroA P e) fun z => newPtr A z e
def eBox (e : TypeId) (x : Operand) (P : Program) (F : T Value) (A : AW) : Option Fx := ob (opnd P F x) fun v => bt (notU v) (newPtr A (cellsA v) e)
def eBuildSlice (t : TypeId) (n : Nat) (ps : Array (Nat × Operand)) (P : Program) (F : T Value) (A : AW) : Option Fx := ob (partsA P F ps.toList) fun vs => fxv (buildSliceA P t n vs A)
def eStore (t : TypeId) (a x : Operand) (P : Program) (F : T Value) (A : AW) : Option Fx := ob (opnd P F a) fun a => ob (opnd P F x) fun x => fxu (storeA P t A a x)
def eUpdate (t : TypeId) (m k v : Operand) (P : Program) (F : T Value) (A : AW) : Option Fx := ob (opnd P F m) fun m => ob (opnd P F k) fun k => ob (opnd P F v) fun v => fxu (mapUpdateA P t A m k v)
def eMakeMap (t : TypeId) (r : Option Operand) (P : Program) (F : T Value) (A : AW) : Option Fx := Option.rec (some (.val (.map (some A.next)) (A.add (.map [] 0))))
  (fun x => ob (mapT P t) fun _ => ob (opnd P F x) fun v => ob (numV v) fun _ => some (.val (.map (some A.next)) (A.add (.map [] 0)))) r
def eMakeSlice (t : TypeId) (l c : Operand) (P : Program) (F : T Value) (A : AW) : Option Fx := ob (opnd P F l) fun l => ob (opnd P F c) fun c => fxv (makeSliceA P t A l c)
def eConv (s d : TypeId) (x : Operand) (P : Program) (F : T Value) (A : AW) : Option Fx := ob (opnd P F x) fun v => fxv (convA P s d A v)
def eDefer (c : Call) (P : Program) (F : T Value) (A : AW) : Option Fx := match c.callee with
  | .value f => ob (opnds P F c.args.toList) fun args => ob (opnd P F f) fun v => match v with
    | .func fn first cap => some (.defr { target := .fn fn cap, args := ⟨first.toList ++ args⟩ } A)
    | _ => none
  | _ => none
def eVal (f : Operand) (c : Call) (P : Program) (F : T Value) (A : AW) : Option Fx := ob (opnds P F c.args.toList) fun args => ob (opnd P F f) fun v => match v with
  | .func (.func f) first cap => some (.enter f ((first.toList ++ args) ++ cap.toList) A)
  | _ => none
def eTwo (g : Program → TypeId → Option TypeId → AW → Value → Value → Option Fx) (c : Call) (P : Program) (F : T Value) (A : AW) : Option Fx := match c.args.toList with
  | [x, y] => ob (lget c.argTypes.toList 0) fun t => ob (opnd P F x) fun x => ob (opnd P F y) fun y => g P t (lget c.argTypes.toList 1) A x y
  | _ => none
def eNone (_ : Program) (_ : T Value) (_ : AW) : Option Fx := none
def gAppend (P : Program) (t : TypeId) (u : Option TypeId) (A : AW) (x y : Value) : Option Fx := fxv (appendA P t u A x y)
def gCopy (P : Program) (t : TypeId) (_ : Option TypeId) (A : AW) (x y : Value) : Option Fx := fxv (copyA P t A x y)
def gDelete (P : Program) (t : TypeId) (_ : Option TypeId) (A : AW) (x y : Value) : Option Fx := fxu (deleteA P t A x y)
def gString (P : Program) (t : TypeId) (_ : Option TypeId) (A : AW) (x y : Value) : Option Fx := fxv (unsafeStringA P t A x y)
def eBuiltin : Builtin → Call → Program → T Value → AW → Option Fx
  | .append => eTwo gAppend
  | .copy => eTwo gCopy
  | .delete => eTwo gDelete
  | .unsafeString => eTwo gString
  | _ => fun _ => eNone
def eCall (c : Call) : Program → T Value → AW → Option Fx := match c.callee with
  | .value f => eVal f c
  | .builtin b => eBuiltin b c
  | .invoke _ _ => eNone
def evE (o : Op) : Program → T Value → AW → Option Fx := match o with
  | .alloc e => eAlloc e
  | .box e x => eBox e x
  | .buildSlice t n ps => eBuildSlice t n ps
  | .store t a x => eStore t a x
  | .insert t m k v => eUpdate t m k v
  | .mapUpdate t m k v => eUpdate t m k v
  | .makeMap t r => eMakeMap t r
  | .makeSlice t l c => eMakeSlice t l c
  | .convert s d x => eConv s d x
  | .defer c => eDefer c
  | .call c => eCall c
  | _ => eNone
end Go.Ev
end
