/- A machine that the kernel runs closed Go programs by, and that what it answers is what the given model does: no conditions but those that each theorem bears. -/
import Derived.WalkKit
import Derived.KernelRfl
import Derived.Deep.Quiet
import Derived.Test.YtkpjjncdicgkkaaGreatDoorE1
import Derived.Laws.StructEq
import Derived.Laws.BytesString

set_option linter.unusedVariables false
set_option linter.unusedSimpArgs false
set_option linter.unusedSectionVars false
namespace Ci
theorem bS {α β : Type _} (a : α) (f : α → Option β) : (some a).bind f = f a := rfl
theorem oI {α : Type _} {a b : α} (h : some a = some b) : a = b := Option.some.inj h
theorem cdF {α : Type _} (a b : α) : (bif false then a else b) = b := rfl
theorem cdT {α : Type _} (a b : α) : (bif true then a else b) = a := rfl
theorem nB {n m : Nat} (h : Nat.ble n m = true) : n ≤ m := Nat.le_of_ble_eq_true h
theorem nE {n m : Nat} (h : Nat.beq n m = true) : n = m := Nat.eq_of_beq_eq_true h
open Go
noncomputable section
inductive df
 | e
 | o (b : df)
 | i (b : df)
inductive Tr (α : Type)
 | lf
 | nd (v : α) (l r : Tr α)
def df.next (b : df) : df := df.rec (.o .e) (fun b _ => .i b) (fun _ ih => .o ih) b
def kR : Nat → Nat → df := fun f => Nat.rec (fun _ => .e) (fun _ ih n => bif Nat.beq n 0 then .e else bif Nat.beq (n % 2) 1 then .i (ih (n / 2)) else .o (ih (n / 2))) f
def df.beq (a : df) : df → Bool := df.rec (fun b => df.rec true (fun _ _ => false) (fun _ _ => false) b) (fun _ ih b => df.rec false (fun b _ => ih b) (fun _ _ => false) b) (fun _ ih b => df.rec false (fun _ _ => false) (fun b _ => ih b) b) a
variable {α β : Type}
def E6 (d : α) (t : Tr α) : α := Tr.rec d (fun v _ _ _ _ => v) t
def E4 (d : α) (ih : Tr α → α) (t : Tr α) : α := Tr.rec d (fun _ l _ _ _ => ih l) t
def E5 (d : α) (ih : Tr α → α) (t : Tr α) : α := Tr.rec d (fun _ _ r _ _ => ih r) t
def Tr.get (d : α) (b : df) : Tr α → α := df.rec (E6 d) (fun _ => E4 d) (fun _ => E5 d) b
def lg (x : α) (t : Tr α) : Tr α := Tr.rec (.nd x .lf .lf) (fun _ l r _ _ => .nd x l r) t
def BN (d : α) (ih : Tr α → Tr α) (t : Tr α) : Tr α := Tr.rec (.nd d (ih .lf) .lf) (fun v l r _ _ => .nd v (ih l) r) t
def EO (d : α) (ih : Tr α → Tr α) (t : Tr α) : Tr α := Tr.rec (.nd d .lf (ih .lf)) (fun v l r _ _ => .nd v l (ih r)) t
def Tr.set (d : α) (b : df) (x : α) : Tr α → Tr α := df.rec (lg x) (fun _ => BN d) (fun _ => EO d) b
inductive V
 | no
 | i (k : IntKind) (n : Int)
 | b (x : Bool)
 | s (n x : Nat)
 | c (v : Value)
 | p (r : df) (off : Nat)
 | sl (r : df) (off len cap : Nat) (known : Bool)
 | es
 | m (r : df)
 | f (fn : Fn) (first caps : List V)
 | y (t : Nat) (v : V)
 | agg (xs : List V)
 | ix (xs : List V)
 | yl (q : df)
inductive O
 | no
 | cells (cs : List V)
 | grow (sz : Nat) (cs : List V)
 | map (es : List (V × V × Nat)) (clock : Nat)
 | iter (m : Option df) (since : Nat) (seen : List Nat) (last : Nat)
 | loop (A B : Code) (p N : Nat) (e : Tr V) (st : Nat)
 | CU
 | qV
abbrev Env := Tr V
structure St where
 n : df
 m : Tr O
inductive R
 | no (w : List Nat)
 | ok (v : V) (s : St)
inductive Ex
 | nx
 | ex (id : Nat)
 | rt
inductive RC
 | no (w : List Nat)
 | ok (x : Ex) (e : Env) (s : St)
def cg : R := .no []
def kS {ρ : Type} (d : ρ) (v : V) (K : IntKind → Int → ρ) : ρ := match v with
 | .i k n => K k n
 | _ => d
def sV {ρ : Type} (d : ρ) (v : V) (K : Bool → ρ) : ρ := match v with
 | .b x => K x
 | _ => d
def mG {ρ : Type} (d : ρ) (v : V) (K : Nat → Nat → ρ) : ρ := match v with
 | .s n x => K n x
 | _ => d
def sU {ρ : Type} (d : ρ) (v : V) (K : df → Nat → ρ) : ρ := match v with
 | .p r off => K r off
 | _ => d
def asAgg {ρ : Type} (d : ρ) (v : V) (K : List V → ρ) : ρ := match v with
 | .agg xs => K xs
 | _ => d
def rY {ρ : Type} (d : ρ) (v : V) (K : List V → ρ) : ρ := match v with
 | .ix xs => K xs
 | _ => d
def rH {ρ : Type} (d : ρ) (v : V) (K : V → ρ) : ρ := match v with
 | .no => d
 | v => K v
def uz {ρ : Type} (d : ρ) (v : V) (K : V → ρ) : ρ := match v with
 | .no => d
 | .ix _ => d
 | v => K v
def cz (v : V) : Bool := match v with
 | .no => false
 | .ix _ => false
 | .agg _ => false
 | _ => true
def cellsOf (v : V) : List V := match v with
 | .agg xs => xs
 | v => [v]
def numOf (bs : List UInt8) : Nat := bs.foldr (fun b n => b.toNat + 256 * n) 0
def dQ : Value → V
 | .int k n => .i k n
 | .bool b => .b b
 | .string s => .s s.data.size (numOf s.data.toList)
 | .pointer none => .c (.pointer none)
 | .slice none n m => .c (.slice none n m)
 | .map none => .c (.map none)
 | .chan none => .c (.chan none)
 | .nilFunc => .c .nilFunc
 | .nilIface => .c .nilIface
 | _ => .no
def fh : Value → V
 | .agg xs => bif (xs.toList.map dQ).all cz then .agg (xs.toList.map dQ) else .no
 | .tuple xs => bif xs.size == 0 then .ix [] else .no
 | v => dQ v
def eu (k : IntKind) (x y : Int) : Int := k.wrap ((BitVec.ofInt k.bits x &&& BitVec.ofInt k.bits y).toNat)
def zx (k : IntKind) (x y : Int) : Int := k.wrap ((BitVec.ofInt k.bits x ||| BitVec.ofInt k.bits y).toNat)
def um (k : IntKind) (x y : Int) : Int := k.wrap ((BitVec.ofInt k.bits x ^^^ BitVec.ofInt k.bits y).toNat)
def nr (k : IntKind) (x y : Int) : Int := k.wrap ((BitVec.ofInt k.bits x &&& ~~~BitVec.ofInt k.bits y).toNat)
def wH (k : IntKind) (x y : Int) : Option Int := if y < 0 then none else some (k.wrap (x * 2 ^ (min y.toNat k.bits)))
def qS (k : IntKind) (x y : Int) : Option Int := if y < 0 then none else some (x.fdiv (2 ^ (min y.toNat k.bits)))
def wU (k : IntKind) (x y : Int) : Option Int := if y = 0 then none else some (k.wrap (x.tdiv y))
def o3 (x y : Int) : Option Int := if y = 0 then none else some (x.tmod y)
def kU (k : IntKind) : Nat := IntKind.rec 0x7f 0x7fff 0x7fffffff 0x7fffffffffffffff 0xff 0xffff 0xffffffff 0xffffffffffffffff k
def mf (k : IntKind) (n : Nat) : Int := bif Nat.ble n (kU k) then .ofNat n else k.wrap (.ofNat n)
def o7 {ρ : Type} (f : Nat → Nat → ρ) (g : Int → Int → ρ) (a b : Int) : ρ := Int.rec (fun m => Int.rec (fun n => f m n) (fun n => g (.ofNat m) (.negSucc n)) b) (fun m => g (.negSucc m) b) a
def CL (k : IntKind) : Int → Int → Int := o7 (fun m n => mf k (Nat.add m n)) (fun a b => k.wrap (a + b))
def C3 (k : IntKind) (m n : Nat) : Int := bif Nat.ble n m then mf k (Nat.sub m n) else k.wrap (.ofNat m - .ofNat n)
def BI (k : IntKind) : Int → Int → Int := o7 (C3 k) (fun a b => k.wrap (a - b))
def BZ (k : IntKind) : Int → Int → Int := o7 (fun m n => mf k (Nat.mul m n)) (fun a b => k.wrap (a * b))
def Aw (k : IntKind) (f : Nat → Nat → Nat) (g : IntKind → Int → Int → Int) : Int → Int → Int := o7 (fun m n => bif Nat.ble m (kU k) && Nat.ble n (kU k) then .ofNat (f m n) else g k (.ofNat m) (.ofNat n)) (g k)
def CK (k : IntKind) : Int → Int → Int := Aw k Nat.land eu
def EZ (k : IntKind) : Int → Int → Int := Aw k Nat.lor zx
def xx (k : IntKind) : Int → Int → Int := Aw k Nat.xor um
def Bh : Int → Int → Bool := o7 Nat.beq (fun a b => decide (a = b))
def yG : Int → Int → Bool := o7 (fun m n => Nat.ble (Nat.succ m) n) (fun a b => decide (a < b))
def Dp : Int → Int → Bool := o7 Nat.ble (fun a b => decide (a ≤ b))
def zf (k : IntKind) : Nat := IntKind.rec 8 16 32 64 8 16 32 64 k
def xb (a b : Nat) : Nat := bif Nat.ble a b then a else b
def C7 (k : IntKind) (m n : Nat) : Option Int := some (mf k (Nat.mul m (Nat.pow 2 (xb n (zf k)))))
def BM (k : IntKind) : Int → Int → Option Int := o7 (C7 k) (fun a b => wH k a b)
def C6 (k : IntKind) (m n : Nat) : Option Int := some (.ofNat (Nat.div m (Nat.pow 2 (xb n (zf k)))))
def BL (k : IntKind) : Int → Int → Option Int := o7 (C6 k) (fun a b => qS k a b)
def BU (k : IntKind) : Int → Int → Option Int := o7 (fun m n => bif Nat.beq n 0 then none else some (mf k (Nat.div m n))) (fun a b => wU k a b)
def BR : Int → Int → Option Int := o7 (fun m n => bif Nat.beq n 0 then none else some (.ofNat (Nat.mod m n))) (fun a b => o3 a b)
def o6 {ρ : Type} (d : ρ) (a : Int) (K : Nat → ρ) : ρ := Int.rec K (fun _ => d) a
end
end Ci
namespace Ci
open Go
noncomputable section
inductive X
 | t (b : df)
 | k (v : V)
def eP (x : X) : Env → V := X.rec (fun b e => Tr.get V.no b e) (fun v _ => v) x
inductive nF
 | no
 | bool
 | int
 | str
 | nil (k : Nat) (g : Bool)
 | struct (fs : List (Nat × Nat × Bool × nF))
inductive CO
 | no
 | mv (x : X)
 | pick (c a b : X)
 | new (cs : List V)
 | box (x : X)
 | EE (x : X) (f : Nat)
 | Fw (x : X)
 | Fv (x : X) (n : Nat)
 | st (x : X) (n : Nat) (v : X)
 | Dh (x : X)
 | bin (op : BinOp) (q : nF) (x y : X)
 | not (x : X)
 | neg (x : X)
 | inv (x : X)
 | FA (k : IntKind) (x : X)
 | Fz (x : X)
 | FC (x : X)
 | Af (x : X) (f : Nat)
 | Ae (x : X) (f n : Nat)
 | Ek (zero : List V) (ps : List (Nat × Nat × X))
 | ext (x : X) (i : Nat)
 | Dv (x i : X) (sz : Nat)
 | Dw (x i : X) (len sz : Nat)
 | B5 (x i : X)
 | Du (x i : X) (len sz : Nat) (one : Bool)
 | Fk (x : X) (lo hi : Option X)
 | Fm (sz : Nat) (x : X) (lo hi : Option X)
 | Fl (sz : Nat) (x : X) (lo : Option X) (hi mx : X)
 | FB (sz len : Nat) (zero : List V) (ps : List (Nat × Nat × X))
 | Fp (bytes : Nat) (zero : List V) (len cap : X)
 | Fq
 | EC (q : nF) (zero : V) (x i : X) (ok : Bool)
 | CT (q : nF) (x i v : X)
 | Fu (fn : Fn) (first caps : List X)
 | Ft (t : Nat) (x : X)
 | call (f : Nat) (xs : List X)
 | wi (x : X) (xs : List X)
 | Dl (x : X)
 | Dn (x : X)
 | Dm (x : X)
 | Ej (x : X)
 | app (sz : Nat) (zero : List V) (x y : X)
 | FL (sz : Nat) (x y : X)
 | Fc (zero : List V) (x : X)
 | min (x y : X)
 | max (x y : X)
 | FF (x : X)
 | FH (x : X)
 | FK (x : X)
abbrev Fs := Nat → List V → St → R
abbrev Step := Fs → Env → St → R
def o4 (v : V) (s : St) : R := rH cg v fun v => .ok v s
def pY {α : Type} (f : α → V) (o : Option α) : V := Option.rec .no f o
def Dq (k : IntKind) : Nat := IntKind.rec 0 1 2 3 4 5 6 7 k
def B4 (k k' : IntKind) : Bool := Nat.beq (Dq k) (Dq k')
def oi (xs : List X) : Env → (List V → R) → R := List.rec (fun _ K => K []) (fun x _ ih e K => rH cg (eP x e) fun v => ih e fun vs => K (v :: vs)) xs
def tX (xs : List V) : V := List.rec .no (fun x _ _ => x) xs
def ib {α : Type} (xs : List α) : List α := List.rec [] (fun _ r _ => r) xs
def gF {α : Type} (n : Nat) : List α → List α := Nat.rec (fun xs => xs) (fun _ ih xs => ih (ib xs)) n
def qU (n : Nat) (xs : List V) : V := tX (gF n xs)
def C2 {α : Type} (ih : List α → List α) (xs : List α) : List α := List.rec [] (fun x r _ => x :: ih r) xs
def pA {α : Type} (n : Nat) : List α → List α := Nat.rec (fun _ => []) (fun _ ih => C2 ih) n
def qj {α : Type} (xs : List α) : Nat := List.rec 0 (fun _ _ ih => Nat.succ ih) xs
def j9 {α : Type} (xs ys : List α) : List α := List.rec ys (fun x _ ih => x :: ih) xs
def tL (vs : List V) : List V → Option (List V) := List.rec (fun xs => some xs) (fun v _ ih xs => List.rec none (fun _ r _ => Option.rec none (fun r => some (v :: r)) (ih r)) xs) vs
def EY (ih : List V → Option (List V)) (xs : List V) : Option (List V) := List.rec none (fun x r _ => Option.rec none (fun r => some (x :: r)) (ih r)) xs
def tG (n : Nat) (vs : List V) : List V → Option (List V) := Nat.rec (tL vs) (fun _ ih => EY ih) n
def fO {α : Type} (xs : List α) (n : Nat) : Bool := Nat.beq (qj xs) n
def sY (xs : List V) : Bool := List.rec true (fun x _ ih => bif cz x then ih else false) xs
def bQ (r : df) (s : St) : O := Tr.get O.no r s.m
def fx (r : df) (o : O) (s : St) : St := ⟨s.n, Tr.set O.no r o s.m⟩
def fG {ρ : Type} (o : O) (s : St) (K : df → St → ρ) : ρ := K s.n ⟨s.n.next, Tr.set O.no s.n o s.m⟩
def iC {ρ : Type} (d : ρ) (o : O) (K : List V → (List V → O) → ρ) : ρ := match o with
 | .cells cs => K cs .cells
 | .grow sz cs => K cs (.grow sz)
 | _ => d
def tQ {ρ : Type} (d : ρ) (o : O) (K : List (V × V × Nat) → Nat → ρ) : ρ := match o with
 | .map es c => K es c
 | _ => d
def jO (n : Nat) (cs : List V) (K : List V → R) : R := let xs := pA n cs; bif fO xs n then K xs else cg
def jq (cs : List V) (off n : Nat) (one : Bool) : V := bif one then qU off cs else (let xs := pA n (gF off cs); bif fO xs n then .agg xs else .no)
def Az (a : Option Bool) (b : Unit → Option Bool) : Option Bool := match a with
 | some true => b ()
 | some false => some false
 | none => none
def sr (k : Nat) (v : V) : Option Bool := match k, v with
 | 0, .c (.pointer none) => some true
 | 0, .p _ _ => some false
 | 1, .c (.slice none _ _) => some true
 | 1, .sl .. => some false
 | 1, .es => some false
 | 2, .c (.map none) => some true
 | 2, .m _ => some false
 | 3, .c .nilFunc => some true
 | 3, .f .. => some false
 | 4, .c .nilIface => some true
 | 4, .y .. => some false
 | _, _ => none
def xY (x y : V) : Option Bool := sU none x fun r o => sU none y fun r' o' => bif r.beq r' then some (Nat.beq o o') else none
def mH : Nat → nF → V → V → Option Bool
 | 0, _, _, _ => none
 | n + 1, q, x, y => match q with
  | .no => none
  | .bool => sV none x fun a => sV none y fun b => some (a == b)
  | .int => kS none x fun k a => kS none y fun k' b => bif B4 k k' then some (Bh a b) else none
  | .str => mG none x fun n a => mG none y fun m b => some (Nat.beq n m && Nat.beq a b)
  | .nil k g => match sr k x, sr k y with
   | some true, some true => bif g then some true else none
   | some true, some false => some false
   | some false, some true => some false
   | some false, some false => bif Nat.beq k 0 && g then xY x y else none
   | _, _ => none
  | .struct fs => asAgg none x fun xs => asAgg none y fun ys => B8 n fs xs ys
 where
 B8 : Nat → List (Nat × Nat × Bool × nF) → List V → List V → Option Bool
 | 0, _, _, _ => none
 | _ + 1, [], _, _ => some true
 | n + 1, (off, sz, one, q) :: fs, xs, ys => Az (mH n q (jq xs off sz one) (jq ys off sz one)) fun _ => B8 n fs xs ys
def Dt (op : BinOp) : IntKind → Int → Int → V := BinOp.rec
 (fun k a b => .i k (CL k a b)) (fun k a b => .i k (BI k a b)) (fun k a b => .i k (BZ k a b))
 (fun k a b => pY (.i k) (BU k a b)) (fun k a b => pY (.i k) (BR a b))
 (fun k a b => .i k (CK k a b)) (fun k a b => .i k (EZ k a b)) (fun k a b => .i k (xx k a b))
 (fun k a b => pY (.i k) (BM k a b)) (fun k a b => pY (.i k) (BL k a b))
 (fun k a b => .i k (nr k a b))
 (fun _ a b => .b (Bh a b)) (fun _ a b => .b (!(Bh a b))) (fun _ a b => .b (yG a b)) (fun _ a b => .b (Dp a b)) (fun _ a b => .b (yG b a)) (fun _ a b => .b (Dp b a)) op
def sE (op : BinOp) : Bool := BinOp.rec false false false false false false false false true true false false false false false false false op
def sF (op : BinOp) (k k' : IntKind) (a b : Int) : V := bif sE op || B4 k k' then Dt op k a b else .no
def fq (n : Nat) : Nat := Nat.pow 256 n
def uF (op : BinOp) (n a m b : Nat) : V := match op with
 | .add => bif Nat.ble (Nat.add n m) 0x100000 then .s (Nat.add n m) (Nat.add a (Nat.mul b (fq n))) else .no
 | .eql => .b (Nat.beq n m && Nat.beq a b)
 | .neq => .b (!(Nat.beq n m && Nat.beq a b))
 | _ => .no
def Bi (op : BinOp) (q : nF) (x y : V) : V := match op with
 | .eql => pY .b (mH 200 q x y)
 | .neq => pY (fun b => .b (!b)) (mH 200 q x y)
 | _ => .no
def El (op : BinOp) (q : nF) (x y : V) : V := match x with
 | .i k a => kS .no y fun k' b => sF op k k' a b
 | .s n a => mG .no y fun m b => uF op n a m b
 | x => Bi op q x y
def EL : Step := fun _ _ _ => cg
def C5 (x : X) : Step := fun _ e s => o4 (eP x e) s
def xK (c a b : X) : Step := fun _ e s => sV cg (eP c e) fun c => rH cg (eP a e) fun x => rH cg (eP b e) fun y => .ok (bif c then x else y) s
def pD (cs : List V) : Step := fun _ _ s => fG (.cells cs) s fun r s => .ok (.p r 0) s
def vD (x : X) : Step := fun _ e s => uz cg (eP x e) fun v => fG (.cells (cellsOf v)) s fun r s => .ok (.p r 0) s
def AW (x : X) (f : Nat) : Step := fun _ e s => sU cg (eP x e) fun r off => .ok (.p r (Nat.add off f)) s
def AU (x : X) : Step := fun _ e s => sU cg (eP x e) fun r off => iC cg (bQ r s) fun cs _ => o4 (qU off cs) s
def AT (x : X) (n : Nat) : Step := fun _ e s => sU cg (eP x e) fun r off => iC cg (bQ r s) fun cs _ => jO n (gF off cs) fun xs => .ok (.agg xs) s
def lb (r : df) (off : Nat) (vs : List V) (s : St) (K : St → R) : R := iC cg (bQ r s) fun cs mk => Option.rec cg (fun cs => K (fx r (mk cs) s)) (tG off vs cs)
def C4 (x : X) (n : Nat) (v : X) : Step := fun _ e s => sU cg (eP x e) fun r off => uz cg (eP v e) fun v => bif fO (cellsOf v) n then lb r off (cellsOf v) s fun s => .ok (.ix []) s else cg
def pC (x : X) : Step := fun _ e s => match eP x e with
 | .p r off => .ok (.p r off) s
 | .f (.func f) a b => .ok (.f (.func f) a b) s
 | _ => cg
def Bb (op : BinOp) (q : nF) (x y : X) : Step := fun _ e s => o4 (El op q (eP x e) (eP y e)) s
def AN (x : X) : Step := fun _ e s => sV cg (eP x e) fun b => .ok (.b (!b)) s
def AO (x : X) : Step := fun _ e s => kS cg (eP x e) fun k n => .ok (.i k (k.wrap (0 - n))) s
def AV (x : X) : Step := fun _ e s => kS cg (eP x e) fun k n => .ok (.i k (xx k (bif k.signed then -1 else k.max) n)) s
def Fa (k : IntKind) (n : Int) : Int := Int.rec (mf k) (fun m => k.wrap (.negSucc m)) n
def A0 (k : IntKind) (x : X) : Step := fun _ e s => kS cg (eP x e) fun _ n => .ok (.i k (Fa k n)) s
def AZ (x : X) : Step := fun _ e s => mG cg (eP x e) fun n x => .ok (.s n x) s
def sN (n : Nat) : Nat → List V := Nat.rec (fun _ => []) (fun _ ih x => .i .u8 (.ofNat (Nat.mod x 256)) :: ih (Nat.div x 256)) n
def byteOf (v : V) : Option Nat := match v with
 | .i .u8 (.ofNat n) => bif Nat.ble n 255 then some n else none
 | _ => none
def sd (xs : List V) : Option Nat := List.rec (some 0) (fun v _ ih => Option.rec none (fun b => Option.rec none (fun n => some (Nat.add b (Nat.mul 256 n))) ih) (byteOf v)) xs
def tx (x : X) : Step := fun _ e s => match eP x e with
 | .sl r off len _ _ => iC cg (bQ r s) fun cs _ => jO len (gF off cs) fun xs => Option.rec cg (fun n => .ok (.s len n) s) (sd xs)
 | .es => .ok (.s 0 0) s
 | .c (.slice none _ _) => .ok (.s 0 0) s
 | _ => cg
def xS (x : X) (f : Nat) : Step := fun _ e s => asAgg cg (eP x e) fun xs => o4 (qU f xs) s
def xR (x : X) (f n : Nat) : Step := fun _ e s => asAgg cg (eP x e) fun xs => jO n (gF f xs) fun xs => .ok (.agg xs) s
def kO (ps : List (Nat × Nat × X)) : Env → List V → (List V → R) → R := List.rec (fun _ cs K => K cs) (fun p _ ih e cs K => uz cg (eP p.2.2 e) fun v => bif fO (cellsOf v) p.2.1 then Option.rec cg (fun cs => ih e cs K) (tG p.1 (cellsOf v) cs) else cg) ps
def Ba (zero : List V) (ps : List (Nat × Nat × X)) : Step := fun _ e s => kO ps e zero fun cs => .ok (.agg cs) s
def AX (x : X) (i : Nat) : Step := fun _ e s => rY cg (eP x e) fun xs => o4 (qU i xs) s
def vY (d : R) (v : V) (len : Nat) (K : Nat → R) : R := kS cg v fun _ i => o6 cg i fun i => bif Nat.ble (Nat.succ i) len then K i else cg
def pG (x i : X) (sz : Nat) : Step := fun _ e s => match eP x e with
 | .sl r off len _ _ => vY cg (eP i e) len fun i => .ok (.p r (Nat.add off (Nat.mul i sz))) s
 | _ => cg
def xQ (x i : X) (len sz : Nat) : Step := fun _ e s => sU cg (eP x e) fun r off => vY cg (eP i e) len fun i => .ok (.p r (Nat.add off (Nat.mul i sz))) s
def xO (x i : X) : Step := fun _ e s => mG cg (eP x e) fun n x => vY cg (eP i e) n fun i => .ok (.i .u8 (.ofNat (Nat.mod (Nat.div x (fq i)) 256))) s
def xP (x i : X) (len sz : Nat) (one : Bool) : Step := fun _ e s => asAgg cg (eP x e) fun xs => vY cg (eP i e) len fun i => o4 (jq xs (Nat.mul i sz) sz one) s
def eX (d : Nat) (m : Nat) (x : Option X) (e : Env) (K : Nat → R) : R := Option.rec (K d) (fun x => kS cg (eP x e) fun _ i => o6 cg i fun i => bif Nat.ble i m then K i else cg) x
def AK (x : X) (lo hi : Option X) : Step := fun _ e s => mG cg (eP x e) fun n x => eX n n hi e fun h => eX 0 h lo e fun l => .ok (.s (Nat.sub h l) (Nat.mod (Nat.div x (fq l)) (fq (Nat.sub h l)))) s
def cutAt (off l sz m : Nat) : Nat := bif Nat.beq m l then off else Nat.add off (Nat.mul l sz)
def tw (sz : Nat) (x : X) (lo hi : Option X) : Step := fun _ e s => match eP x e with
 | .sl r off len cap known => eX len (bif known then cap else len) hi e fun h => eX 0 h lo e fun l => bif known then .ok (.sl r (cutAt off l sz cap) (Nat.sub h l) (Nat.sub cap l) true) s
   else bif Nat.beq l 0 then .ok (.sl r off h cap false) s else bif Nat.ble (Nat.succ l) len then .ok (.sl r (Nat.add off (Nat.mul l sz)) (Nat.sub h l) (Nat.add cap l) false) s else .ok .es s
 | .c (.slice none 0 0) => eX 0 0 hi e fun h => eX 0 h lo e fun l => .ok (.c (.slice none 0 0)) s
 | _ => cg
def tv (sz : Nat) (x : X) (lo : Option X) (hi mx : X) : Step := fun _ e s => match eP x e with
 | .sl r off len cap known => eX 0 (bif known then cap else len) (some mx) e fun m => eX 0 m (some hi) e fun h => eX 0 h lo e fun l => .ok (.sl r (cutAt off l sz m) (Nat.sub h l) (Nat.sub m l) true) s
 | .c (.slice none 0 0) => eX 0 0 (some mx) e fun m => eX 0 m (some hi) e fun h => eX 0 h lo e fun l => .ok (.c (.slice none 0 0)) s
 | _ => cg
def A5 (sz len : Nat) (zero : List V) (ps : List (Nat × Nat × X)) : Step := fun _ e s => kO ps e zero fun cs => fG (.cells cs) s fun r s => .ok (.sl r 0 len len true) s
def pV (zero : List V) (n : Nat) : List V := Nat.rec [] (fun _ ih => j9 zero ih) n
def vC (bytes : Nat) (zero : List V) (len cap : X) : Step := fun _ e s => kS cg (eP len e) fun _ l => kS cg (eP cap e) fun _ c => o6 cg l fun l => o6 cg c fun c => bif Nat.ble l c && Nat.ble (Nat.mul bytes c) 0x100000 && Nat.ble c 0x100000 then fG (.cells (pV zero c)) s fun r s => .ok (.sl r 0 l c true) s else cg
def pE : Step := fun _ _ s => fG (.map [] 0) s fun r s => .ok (.m r) s
def qv (q : nF) (k : V) (es : List (V × V × Nat)) : Nat → Option (Option (Nat × V)) := List.rec (fun _ => some none) (fun e _ ih i => Option.rec none (fun b => bif b then some (some (i, e.2.1)) else ih (Nat.succ i)) (mH 200 q k e.1)) es
def ti {ρ : Type} (d : ρ) (v : V) (s : St) (K : Option df → List (V × V × Nat) → Nat → ρ) : ρ := match v with
 | .c (.map none) => K none [] 0
 | .m r => tQ d (bQ r s) fun es c => K (some r) es c
 | _ => d
def xM (q : nF) (zero : V) (x i : X) (ok : Bool) : Step := fun _ e s => uz cg (eP i e) fun k => ti cg (eP x e) s fun _ es _ => Option.rec cg (fun o => o4 (Option.rec (bif ok then .ix [zero, .b false] else zero) (fun p => bif ok then .ix [p.2, .b true] else p.2) o) s) (qv q k es 0)
def uN {α : Type} (n : Nat) (f : α → α) : List α → List α := Nat.rec (fun xs => List.rec [] (fun x r _ => f x :: r) xs) (fun _ ih xs => List.rec [] (fun x r _ => x :: ih r) xs) n
def xL (q : nF) (x i v : X) : Step := fun _ e s => uz cg (eP i e) fun k => uz cg (eP v e) fun v => ti cg (eP x e) s fun r es c => Option.rec cg (fun r => Option.rec cg (fun o => .ok (.ix []) (fx r (Option.rec (.map (j9 es [(k, v, c)]) (Nat.succ c)) (fun p => .map (uN p.1 (fun e => (k, v, e.2.2)) es) c) o) s)) (qv q k es 0)) r
def uI (x : X) : Step := fun _ e s => ti cg (eP x e) s fun _ es _ => .ok (.i .i64 (.ofNat (qj es))) s
def AQ (fn : Fn) (first caps : List X) : Step := fun _ e s => oi first e fun a => oi caps e fun b => .ok (.f fn a b) s
def AP (t : Nat) (x : X) : Step := fun _ e s => uz cg (eP x e) fun v => .ok (.y t v) s
def xV (f : Nat) (xs : List X) : Step := fun F e s => oi xs e fun vs => F f vs s
def pn (x : X) (xs : List X) : Step := fun F e s => match eP x e with
 | .f (.func f) a b => oi xs e fun vs => F f (j9 a (j9 vs b)) s
 | _ => cg
def xN (x : X) : Step := fun _ e s => mG cg (eP x e) fun n _ => .ok (.i .i64 (.ofNat n)) s
def pF (x : X) : Step := fun _ e s => match eP x e with
 | .sl _ _ n _ _ => .ok (.i .i64 (.ofNat n)) s
 | .es => .ok (.i .i64 0) s
 | .c (.slice none n _) => .ok (.i .i64 (.ofNat n)) s
 | _ => cg
def pH (x : X) : Step := fun _ e s => match eP x e with
 | .sl _ _ _ n true => .ok (.i .i64 (.ofNat n)) s
 | .c (.slice none _ n) => .ok (.i .i64 (.ofNat n)) s
 | _ => cg
def vO (sz : Nat) (v : V) (s : St) (K : Nat → List V → R) : R := match v with
 | .sl r off len _ _ => iC cg (bQ r s) fun cs _ => jO (Nat.mul len sz) (gF off cs) fun xs => K len xs
 | .es => K 0 []
 | .c (.slice none 0 _) => K 0 []
 | .s n x => bif Nat.beq sz 1 then K n (sN n x) else cg
 | _ => cg
def kN (sz : Nat) (cs : List V) (n : Nat) (s : St) : R := bif Nat.ble n 0x10000 then fG (.grow sz cs) s fun r s => .ok (.sl r 0 n 0 false) s else cg
def Bg {ρ : Type} (d : ρ) (sz off cap : Nat) (o : O) (K : List V → ρ) : ρ := match o with
 | .grow sz' cs => bif Nat.beq sz' sz && Nat.beq off (Nat.mul cap sz) && Nat.ble 1 sz then K cs else d
 | _ => d
def zm (r : df) (stop : Nat) (new : List V) (v : V) (s : St) : R := lb r stop new s fun s => .ok v s
def xW (sz : Nat) (zero : List V) (x y : X) : Step := fun _ e s => vO sz (eP y e) s fun k new => match eP x e with
 | .c (.slice none 0 0) => bif Nat.beq k 0 then .ok (.c (.slice none 0 0)) s else kN sz new k s
 | .sl r off len cap true => bif Nat.ble (Nat.add len k) cap then zm r (Nat.add off (Nat.mul len sz)) new (.sl r off (Nat.add len k) cap true) s
  else iC cg (bQ r s) fun cs _ => jO (Nat.mul len sz) (gF off cs) fun vM => kN sz (j9 vM new) (Nat.add len k) s
 | .sl r off len cap false => bif Nat.beq k 0 then .ok (.sl r off len cap false) s else
  Bg cg sz off cap (bQ r s) fun cs => bif Nat.ble (Nat.add (Nat.add off (Nat.mul len sz)) (Nat.mul k sz)) (qj cs) then zm r (Nat.add off (Nat.mul len sz)) new (.sl r off (Nat.add len k) cap false) s
   else bif Nat.beq (Nat.add off (Nat.mul len sz)) (qj cs) then kN sz (j9 (gF off cs) new) (Nat.add len k) (fx r .no s) else cg
 | _ => cg
def xU (sz : Nat) (x y : X) : Step := fun _ e s => vO sz (eP y e) s fun k new => match eP x e with
 | .c (.slice none 0 _) => .ok (.i .i64 0) s
 | .es => .ok (.i .i64 0) s
 | .sl r off len _ _ => lb r off (pA (Nat.mul (xb k len) sz) new) s fun s => .ok (.i .i64 (.ofNat (xb k len))) s
 | _ => cg
def uJ (zero : List V) (x : X) : Step := fun _ e s => match eP x e with
 | .c (.slice none _ _) => .ok (.ix []) s
 | .es => .ok (.ix []) s
 | .sl r off len _ _ => lb r off (pV zero len) s fun s => .ok (.ix []) s
 | _ => cg
def AR (x y : X) : Step := fun _ e s => kS cg (eP x e) fun k a => kS cg (eP y e) fun _ b => .ok (.i k (bif yG b a then b else a)) s
def AS (x y : X) : Step := fun _ e s => kS cg (eP x e) fun k a => kS cg (eP y e) fun _ b => .ok (.i k (bif yG a b then b else a)) s
def xJ (x : X) : Step := fun _ e s => match eP x e with
 | .c (.map none) => fG (.iter none 0 [] 0) s fun q s => .ok (.p q 0) s
 | .m r => tQ cg (bQ r s) fun _ c => fG (.iter (some r) c [] c) s fun q s => .ok (.p q 0) s
 | _ => cg
def vZ {ρ : Type} (d : ρ) (o : O) (K : Option df → Nat → List Nat → Nat → ρ) : ρ := match o with
 | .iter m since seen last => K m since seen last
 | _ => d
def gD (n : Nat) (xs : List Nat) : Bool := List.rec false (fun x _ ih => bif Nat.beq x n then true else ih) xs
def rG (seen : List Nat) (es : List (V × V × Nat)) : List (V × V × Nat) := List.rec [] (fun e _ ih => bif gD e.2.2 seen then ih else e :: ih) es
def sH (seen : List Nat) (es : List (V × V × Nat)) (last : Nat) : Bool := match seen, es with
 | [], _ => true
 | _, [] => true
 | _, f :: _ => Nat.ble (Nat.succ f.2.2) last
def BX (q r : df) (since c : Nat) (seen : List Nat) (s : St) (l : List (V × V × Nat)) : R := match l with
 | [] => .ok (.ix [.b false]) s
 | [f] => bif Nat.ble (Nat.succ f.2.2) since then .ok (.ix [.b true, f.1, f.2.1]) (fx q (.iter (some r) since (j9 seen [f.2.2]) c) s) else cg
 | _ => cg
def AM (x : X) : Step := fun _ e s => sU cg (eP x e) fun q off => bif Nat.beq off 0 then vZ cg (bQ q s) fun m since seen last => Option.rec (.ok (.ix [.b false]) s) (fun r => tQ cg (bQ r s) fun es c => bif sH seen es last then BX q r since c seen s (rG seen es) else cg) m else cg
def B9 (s : St) (seen : List Nat) (es : List (V × V × Nat)) : R := match seen, es with
 | [n], [f] => bif Nat.beq f.2.2 n then .ok (.ix [f.1, f.2.1]) s else cg
 | _, _ => cg
def AY (x : X) : Step := fun _ e s => sU cg (eP x e) fun q off => bif Nat.beq off 0 then vZ cg (bQ q s) fun m since seen last => Option.rec cg (fun r => tQ cg (bQ r s) fun es c => bif Nat.beq c last then B9 s seen es else cg) m else cg
def rE : df := .o (.o (.o (.o (.o (.o (.o (.o (.o (.o (.o (.o (.o (.o (.o (.o (.o (.o (.o (.o (.o (.o (.o (.o .e)))))))))))))))))))))))
def AJ (cv : X → List X → Step) (c : CO) : Step := CO.rec EL C5 xK pD vD AW AU AT C4 pC Bb AN AO AV A0 AZ tx xS xR Ba AX pG xQ xO xP AK tw tv A5 vC pE xM xL AQ AP xV cv xN pF uI pH xW xU uJ AR AS xJ AM AY c
def eO (c : CO) : Step := AJ pn c
structure CG where
 g : Option (df × Bool)
 d : Option df
 op : CO
structure DG where
 c : CG
 wo : Nat
inductive CC
 | no
 | skip
 | FG (id : Nat) (ops : List CG)
 | ET (id : Nat) (ops : List DG)
 | seq (a b : CC)
 | cond (x : X) (a b : CC)
 | block (id : Nat) (c : CC)
 | loop (c : CC)
 | exit (id : Nat)
 | ret
 | ES (x : X) (p N : Nat) (A B : Code)
def df.num (b : df) : Nat := df.rec 0 (fun _ ih => 2 * ih) (fun _ ih => 2 * ih + 1) b
def jk (d : Option df) (v : V) (e : Env) : Env := Option.rec e (fun d => Tr.set V.no d v e) d
def iA (g : Option (df × Bool)) (e : Env) : Option Bool := Option.rec (some true) (fun p => match Tr.get V.no p.1 e with
 | .b x => some (bif p.2 then x else !x)
 | .ix _ => some false
 | _ => none) g
structure YS where
 run : Code → Nat → Env → St → RC
 has : Nat → Bool
def kL {ρ : Type} (d : ρ) (o : O) (K : Code → Code → Nat → Nat → Env → Nat → ρ) : ρ := match o with
 | .loop A B p N e st => K A B p N e st
 | _ => d
def Dx (x : Ex) : Nat := Ex.rec 0 (fun id => Nat.add 3 id) 2 x
def Ds (x : Ex) : Bool := Ex.rec true (fun _ => false) false x
def tz (t : Nat) : df := kR 20 t
def yf (y : YS) (q : df) (v : V) (s : St) : R := kL cg (bQ q s) fun A B p N e st => bif Nat.beq st 0 then RC.rec .no (fun x e1 s1 => Ex.rec
  (kL cg (bQ q s1) fun A1 B1 p1 N1 er st1 => bif Nat.beq st1 0 then RC.rec .no (fun x2 _ s2 => kL cg (bQ q s2) fun A2 B2 p2 N2 e2 st2 => bif Nat.beq st2 1 then .ok (.b (Ds x2)) (fx q (.loop A2 B2 p2 N2 e2 (Dx x2)) s2) else cg) (y.run B N e1 (fx q (.loop A1 B1 p1 N1 er 1) s1)) else cg)
  (fun _ => cg) cg x) (y.run A N (Tr.set V.no (tz p) v e) s) else cg
def pI (y : YS) (x : X) (xs : List X) : Step := fun F e s => match eP x e with
 | .yl q => oi xs e fun vs => (match vs with
  | [v] => yf y q v s
  | _ => cg)
 | _ => pn x xs F e s
def tr (y : Option YS) : CO → Step := Option.rec eO (fun y => AJ (pI y)) y
def zT (op : CO) (d : Option df) (y : Option YS) (F : Fs) (e : Env) (s : St) (K : Env → St → RC) : RC := R.rec (fun w => .no (Option.rec 2000 df.num d :: w)) (fun v s => K (jk d v e) s) (tr y op F e s)
def tM (ops : List CG) : Option YS → Fs → Env → St → (Env → St → RC) → RC := List.rec (fun _ _ e s K => K e s) (fun o _ ih y F e s K => Option.rec (.no [1000]) (fun b => bif b then zT o.op o.d y F e s fun e s => ih y F e s K else ih y F (jk o.d (.ix []) e) s K) (iA o.g e)) ops
def fD (c : CO) : Nat := CO.rec 3 (fun _ => 0) (fun _ _ _ => 0) (fun _ => 2) (fun _ => 2) (fun _ _ => 0) (fun _ => 1) (fun _ _ => 1) (fun _ _ _ => 3) (fun _ => 0) (fun _ _ _ _ => 0) (fun _ => 0) (fun _ => 0) (fun _ => 0) (fun _ _ => 0) (fun _ => 0) (fun _ => 1) (fun _ _ => 0) (fun _ _ _ => 0) (fun _ _ => 0) (fun _ _ => 0) (fun _ _ _ => 0) (fun _ _ _ _ => 0) (fun _ _ => 0) (fun _ _ _ _ _ => 0) (fun _ _ _ => 0) (fun _ _ _ _ => 0) (fun _ _ _ _ _ => 0) (fun _ _ _ _ => 2) (fun _ _ _ _ => 2) 2 (fun _ _ _ _ _ => 1) (fun _ _ _ _ => 3) (fun _ _ _ => 0) (fun _ _ => 0) (fun _ _ => 3) (fun _ _ => 3) (fun _ => 0) (fun _ => 0) (fun _ => 1) (fun _ => 0) (fun _ _ _ _ => 3) (fun _ _ _ => 3) (fun _ _ => 3) (fun _ _ => 0) (fun _ _ => 0) (fun _ => 3) (fun _ => 3) (fun _ => 3) c
def bit (m i : Nat) : Bool := Nat.beq (Nat.mod (Nat.div m (Nat.pow 2 i)) 2) 1
abbrev AL := List (Nat × df × O)
def cB (al : AL) (m x : Nat) (s : St) : St := List.rec s (fun p _ ih => bif bit m p.1 && !bit x p.1 then fx p.2.1 p.2.2 ih else ih) al
structure LD where
 op : CO
 e : Env
 v : V
 wo : Nat
 i : Nat
structure SL where
 s : St
 wd : Nat
 aw : Nat
structure DS where
 i : Nat
 e : Env
 st : SL
 al : AL
 ld : List LD
 sl : List SL
 nx : df
def tu (o : DG) (F : Fs) (d : DS) (K : DS → RC) : RC := Option.rec (.no [3000]) (fun b => bif b then
  (Nat.rec (R.rec .no (fun v _ => K ⟨Nat.succ d.i, jk o.c.d v d.e, d.st, d.al, d.ld, d.sl, d.nx⟩) (eO o.c.op F d.e d.st.s))
   (fun n _ => Nat.rec (R.rec .no (fun v _ => K ⟨Nat.succ d.i, jk o.c.d v d.e, d.st, d.al, ⟨o.c.op, d.e, v, o.wo, d.i⟩ :: d.ld, d.sl, d.nx⟩) (eO o.c.op F d.e (cB d.al o.wo d.st.aw d.st.s)))
    (fun n _ => Nat.rec (R.rec .no (fun v s => K ⟨Nat.succ d.i, jk o.c.d v d.e, d.st, (d.i, d.nx, bQ d.nx s) :: d.al, d.ld, d.sl, d.nx.next⟩) (eO o.c.op F d.e ⟨d.nx, .lf⟩))
     (fun n _ => bif Nat.beq (Nat.lor d.st.wd o.wo) o.wo then R.rec .no (fun v s => K ⟨Nat.succ d.i, jk o.c.d v d.e, ⟨s, Nat.lor d.st.wd (Nat.pow 2 d.i), Nat.lor d.st.aw o.wo⟩, d.al, d.ld, d.st :: d.sl, d.nx⟩) (eO o.c.op F d.e (cB d.al o.wo d.st.aw d.st.s)) else .no [3001]) n) n) (fD o.c.op))
  else K ⟨Nat.succ d.i, jk o.c.d (.ix []) d.e, d.st, d.al, d.ld, d.sl, d.nx⟩) (iA o.c.g d.e)
def uH (ops : List DG) : Fs → DS → (DS → RC) → RC := List.rec (fun _ d K => K d) (fun o _ ih F d K => tu o F d fun d => ih F d K) ops
def CE : Value → Value → Bool
 | .pointer none, .pointer none => true
 | .slice none a b, .slice none c d => Nat.beq a c && Nat.beq b d
 | .map none, .map none => true
 | .nilFunc, .nilFunc => true
 | .nilIface, .nilIface => true
 | _, _ => false
def wz : Nat → V → V → Bool
 | 0, _, _ => false
 | n + 1, x, y => match x, y with
  | .i k a, .i j b => B4 k j && Bh a b
  | .b a, .b b => a == b
  | .s n a, .s m b => Nat.beq n m && Nat.beq a b
  | .c a, .c b => CE a b
  | .p r a, .p q b => r.beq q && Nat.beq a b
  | .sl r a b c k, .sl q d e f l => r.beq q && (Nat.beq a d && (Nat.beq b e && (Nat.beq c f && (k == l))))
  | .es, .es => true
  | .m r, .m q => r.beq q
  | .f (.func f) a b, .f (.func g) c d => Nat.beq f g && (py n a c && py n b d)
  | .y t a, .y u b => Nat.beq t u && wz n a b
  | .agg a, .agg b => py n a b
  | .ix a, .ix b => py n a b
  | _, _ => false
 where
 py : Nat → List V → List V → Bool
 | 0, _, _ => false
 | _ + 1, [], [] => true
 | n + 1, x :: xs, y :: ys => wz n x y && py n xs ys
 | _ + 1, _, _ => false
def yM (F : Fs) (al : AL) (wall : Nat) (l : LD) (st : SL) : Bool := bif Nat.beq (Nat.lor (Nat.land l.wo wall) st.wd) st.wd && !bit st.aw l.i then R.rec (fun _ => false) (fun v _ => wz 200 v l.v) (eO l.op F l.e (cB al l.wo st.aw st.s)) else true
def nw {α : Type} (f : α → Bool) (xs : List α) : Bool := List.rec true (fun x _ ih => bif f x then ih else false) xs
def E8 (F : Fs) (K : Env → St → RC) (d : DS) : RC := bif nw (fun st => nw (fun l => yM F d.al d.st.wd l st) d.ld) (d.st :: d.sl) then K d.e (cB d.al (Nat.sub (Nat.pow 2 d.i) 1) d.st.aw d.st.s) else .no [3002]
def j6 (ops : List DG) : df → df := List.rec (fun b => b) (fun o _ ih b => bif Nat.beq (fD o.c.op) 2 then ih b.next else ih b) ops
def mn (ops : List DG) (e : Env) (s : St) : DS := ⟨0, e, ⟨⟨j6 ops s.n, s.m⟩, 0, 0⟩, [], [], [], s.n⟩
def zN (ops : List DG) (F : Fs) (e : Env) (s : St) (K : Env → St → RC) : RC := uH ops F (mn ops e s) (E8 F K)
abbrev ta := Option YS → Fs → Env → St → RC
def yq (K : Env → St → RC) (x : Ex) : Env → St → RC := Ex.rec K (fun id e s => .ok (.ex id) e s) (fun e s => .ok .rt e s) x
def Fo : ta := fun _ _ _ _ => .no [1001]
def Da : ta := fun _ _ e s => .ok .nx e s
def EX (id : Nat) (ops : List CG) : ta := fun y F e s => RC.rec (fun w => .no (id :: w)) .ok (tM ops y F e s fun e s => .ok .nx e s)
def Db (id : Nat) (ops : List DG) : ta := fun _ F e s => RC.rec (fun w => .no (id :: w)) .ok (zN ops F e s fun e s => .ok .nx e s)
def EV (_ _ : CC) (a b : ta) : ta := fun y F e s => RC.rec .no (yq (b y F)) (a y F e s)
def De (x : X) (_ _ : CC) (a b : ta) : ta := fun y F e s => sV (.no [1002]) (eP x e) fun c => bif c then a y F e s else b y F e s
def BT (id : Nat) (_ : CC) (a : ta) : ta := fun y F e s => RC.rec .no (fun x e s => Ex.rec (.ok .nx e s) (fun j => .ok (bif Nat.beq id j then .nx else .ex j) e s) (.ok .rt e s) x) (a y F e s)
def uU (n : Nat) : ta → ta := Nat.rec (fun _ => Fo) (fun _ ih a y F e s => RC.rec .no (yq (ih a y F)) (a y F e s)) n
def Dc (_ : CC) (a : ta) : ta := uU 5000 a
def Dd (id : Nat) : ta := fun _ _ e s => .ok (.ex id) e s
def EW : ta := fun _ _ e s => .ok .rt e s
def ub (st : Nat) : Option Ex := Nat.rec (some .nx) (fun n _ => Nat.rec none (fun n _ => Nat.rec (some .rt) (fun n _ => some (.ex n)) n) n) st
def yt (x : X) (p N : Nat) (A B : Code) : ta := fun y F e s => Option.rec (.no [4000]) (fun y => match eP x e with
 | .f (.func g) a b => bif y.has g then (match Tr.get V.no rE e with
  | .no => fG .CU s fun D s => fG (.loop A B p N e 0) s fun q s => R.rec .no (fun _ s => kL (.no [4001]) (bQ q s) fun _ _ _ _ _ st => Option.rec (.no [4002]) (fun x => .ok x (Tr.set V.no rE (.p D 0) e) (fx q .qV s)) (ub st)) (F g (j9 a (.yl q :: b)) s)
  | _ => .no [4003]) else .no [4004, g]
 | _ => .no [4005]) y
def lX (c : CC) : ta := CC.rec Fo Da EX Db EV De BT Dc Dd EW yt c
inductive CR
 | no
 | t (b : df)
 | cell (b : df) (n : Nat) (one : Bool)
structure CF where
 body : CC
 np : Nat
 ps : List df
 rs : List CR
def BP (r : CR) (e : Env) (s : St) (K : V → R) : R := CR.rec cg (fun b => rH cg (Tr.get V.no b e) K) (fun b n one => sU cg (Tr.get V.no b e) fun r off => iC cg (bQ r s) fun cs _ => rH cg (jq cs off n one) K) r
def tF (rs : List CR) : Env → St → (List V → R) → R := List.rec (fun _ _ K => K []) (fun r _ ih e s K => BP r e s fun v => ih e s fun vs => K (v :: vs)) rs
def xE (vs : List V) : V := match vs with
 | [v] => v
 | vs => .ix vs
def iZ (ps : List df) : List V → Env := List.rec (fun _ => .lf) (fun p _ ih vs => Tr.set V.no p (tX vs) (ih (ib vs))) ps
def va (rs : List CR) (e : Env) (s : St) : R := match Tr.get V.no rE e with
 | .no => tF rs e s fun vs => .ok (xE vs) s
 | .p D _ => (match bQ D s with
  | .CU => tF rs e (fx D .qV s) fun vs => .ok (xE vs) (fx D .qV s)
  | _ => .no [1007])
 | _ => .no [1008]
def yb (f : CF) (y : Option YS) (F : Fs) (vs : List V) (s : St) : R := bif fO vs f.np then RC.rec .no (fun x e s => Ex.rec (va f.rs e s) (fun _ => .no [1003]) (va f.rs e s) x) (lX f.body y F (iZ f.ps vs) s) else .no [1004]
def zI (sp : Nat → Option (List V → St → R)) (get : Nat → Option CF) (y : Fs → YS) (n : Nat) : Fs := Nat.rec (fun _ _ _ => .no [1005]) (fun _ ih f vs s => Option.rec (Option.rec (.no [1006, f]) (fun c => R.rec (fun w => .no (f :: w)) .ok (yb c (some (y ih)) ih vs s)) (get f)) (fun g => R.rec (fun w => .no (f :: w)) .ok (g vs s)) (sp f)) n
end
end Ci
namespace Ci
open Go
noncomputable section
def slot (t : Nat) : df := kR 20 t
def cX : Operand → X
 | .tmp t => bif Nat.blt t 0x100000 then .t (slot t) else .k .no
 | .const v => .k (fh v)
 | .func f => .k (.f (.func f) [] [])
 | .global _ => .k .no
def zw (xs : Array Operand) : List X := xs.toList.map cX
def fN (P : Program) (t : Nat) : Bool := match P.underlying t with
 | some (.struct _) => false
 | some (.array ..) => false
 | some _ => true
 | none => false
def jf (P : Program) (t : Nat) : Bool := match P.underlying t with
 | some (.struct _) => true
 | some (.array ..) => true
 | _ => false
def uy (P : Program) (t : Nat) (K : Nat → CO) : CO := match P.info? t with
 | some i => K i.size
 | none => .no
def vu (P : Program) (t : Nat) (K : List V → CO) : CO := match P.info? t with
 | some i => match i.zero with
  | some z => bif fO (z.cells.toList.map dQ) i.size && sY (z.cells.toList.map dQ) then K (z.cells.toList.map dQ) else .no
  | none => .no
 | none => .no
def sD (v : V) : Bool := match v with
 | .no => false
 | _ => true
def AH (P : Program) (t : Nat) (K : V → CO) : CO := match P.info? t with
 | some i => match i.zero with
  | some z => bif sD (fh z) then K (fh z) else .no
  | none => .no
 | none => .no
def gx (P : Program) (t i : Nat) (K : Field → Nat → CO) : CO := match P.underlying t with
 | some (.struct fs) => match fs[i]? with
  | some f => uy P f.type fun n => bif Nat.beq n 0 then .no else K f n
  | none => .no
 | _ => .no
def EF (P : Program) (q : Nat → nF) : List Field → Option (List (Nat × Nat × Bool × nF))
 | [] => some []
 | f :: fs => match P.info? f.type with
  | some i => bif f.name == "_" then none else match EF P q fs with
   | some l => some ((f.offset, i.size, fN P f.type, q f.type) :: l)
   | none => none
  | none => none
def nH (P : Program) : Nat → Nat → nF
 | 0, _ => .no
 | d + 1, t => match P.underlying t with
  | some .bool => .bool
  | some (.int _) => .int
  | some .string => .str
  | some (.pointer e) => match (P.info? e).map (·.size) with
   | some (_ + 1) => .nil 0 true
   | _ => .no
  | some (.slice _) => .nil 1 true
  | some (.map ..) => .nil 2 true
  | some (.func ..) => .nil 3 true
  | some (.interface _) => .nil 4 true
  | some (.struct fs) => bif P.stoodInHeld t then .no else match EF P (nH P d) fs.toList with
   | some l => .struct l
   | none => .no
  | _ => .no
def v7 : Operand → Bool
 | .const _ => true
 | _ => false
def qY (P : Program) (t : Nat) (x y : Operand) : nF := bif P.eqGuardType P.depth t then (match P.underlying t with
 | some (.interface _) => .nil 4 (v7 x || v7 y)
 | _ => .no) else nH P 9 t
def mC (pl : Nat → Option (Nat × Nat)) : List (Nat × Operand) → Option (List (Nat × Nat × X))
 | [] => some []
 | p :: ps => match pl p.1, mC pl ps with
  | some q, some l => some ((q.1, q.2, cX p.2) :: l)
  | _, _ => none
def pq (P : Program) (t : Nat) : Option ((Nat → Option (Nat × Nat)) × List Value) := match P.info? t, P.underlying t with
 | some it, some (.array _ e) => match it.zero, P.info? e with
  | some z, some ie => some (fun i => some (i * ie.size, ie.size), z.cells.toList)
  | _, _ => none
 | some it, some (.struct fields) => match it.zero, fields.toList.mapM (fun f => (P.info? f.type).map fun i => (f.offset, i.size)) with
  | some z, some places => some ((places[·]?), z.cells.toList)
  | _, _ => none
 | _, _ => none
def qE (P : Program) (t : Nat) (ps : Array (Nat × Operand)) : CO := match pq P t with
 | some (pl, z) => match mC pl ps.toList with
  | some l => bif sY (z.map dQ) then .Ek (z.map dQ) l else .no
  | none => .no
 | none => .no
def pK (P : Program) (t : Nat) (K : CO) : CO := match P.info? t with
 | some i => bif Nat.ble i.bytes 0x10000 then K else .no
 | none => .no
def Ar (P : Program) (x : Operand) (t : Nat) : CO := match P.underlying t with
 | some .string => .Dl (cX x)
 | some (.slice _) => .Dn (cX x)
 | some (.map ..) => .Dm (cX x)
 | some (.array n _) => .mv (.k (.i .i64 n))
 | some (.pointer e) => match P.underlying e with
  | some (.array n _) => .mv (.k (.i .i64 n))
  | _ => .no
 | _ => .no
def Ax (P : Program) (t : Nat) : Bool := match P.underlying t with
 | some (.slice _) => true
 | some .string => true
 | _ => false
def Au (P : Program) (x y : Operand) (t t' : Nat) : CO := match P.underlying t with
 | some (.slice e) => bif Ax P t' then pK P e (vu P e fun z => .app z.length z (cX x) (cX y)) else .no
 | _ => .no
def jc (P : Program) (b : Builtin) (args : List Operand) (tys : List Nat) : CO := match b, args, tys with
 | .len, [x], [t] => Ar P x t
 | .cap, [x], [t] => match P.underlying t with
  | some (.slice _) => .Ej (cX x)
  | _ => .no
 | .append, [x, y], [t, t'] => Au P x y t t'
 | .copy, [x, y], t :: _ => match P.underlying t with
  | some (.slice e) => uy P e fun n => .FL n (cX x) (cX y)
  | _ => .no
 | .clear, [x], [t] => match P.underlying t with
  | some (.slice e) => vu P e fun z => .Fc z (cX x)
  | _ => .no
 | .min, [x, y], _ => .min (cX x) (cX y)
 | .max, [x, y], _ => .max (cX x) (cX y)
 | _, _, _ => .no
def Bl (P : Program) (c : Call) : CO := match c.callee with
 | .value (.func f) => .call f (zw c.args)
 | .value x => .wi (cX x) (zw c.args)
 | .builtin b => jc P b c.args.toList c.argTypes.toList
 | _ => .no
def qD (P : Program) (t : Nat) (x : Operand) (lo hi mx : Option Operand) : CO := match P.underlying t with
 | some .string => match mx with
  | none => .Fk (cX x) (lo.map cX) (hi.map cX)
  | some _ => .no
 | some (.slice e) => uy P e fun n => match hi, mx with
  | hi, none => .Fm n (cX x) (lo.map cX) (hi.map cX)
  | some hi, some mx => .Fl n (cX x) (lo.map cX) (cX hi) (cX mx)
  | none, some _ => .no
 | _ => .no
def mz (P : Program) (t : Nat) (K : nF → CO) : CO := match P.underlying t with
 | some (.map k _) => match P.underlying k with
  | some (.int _) => K .int
  | some .string => K .str
  | _ => .no
 | _ => .no
def rO (P : Program) (t : Nat) : Nat := match P.underlying t with
 | some (.map _ e) => e
 | _ => 0
def ft (P : Program) : Op → CO
 | .move x => .mv (cX x)
 | .assign x => .mv (cX x)
 | .pick c a b => .pick (cX c) (cX a) (cX b)
 | .alloc t => vu P t .new
 | .box _ x => .box (cX x)
 | .build t ps => qE P t ps
 | .buildSlice t n ps => match P.underlying t with
  | some (.slice e) => vu P e fun z => match mC (fun i => some (i * z.length, z.length)) ps.toList with
   | some l => bif Nat.ble (n * z.length) 0x1000000 then .FB z.length n (pV z n) l else .no
   | none => .no
  | _ => .no
 | .load t x => bif fN P t then .Fw (cX x) else bif jf P t then uy P t fun n => .Fv (cX x) n else .no
 | .store t x v => uy P t fun n => .st (cX x) n (cX v)
 | .nilCheck x => .Dh (cX x)
 | .binOp op t x y _ => .bin op (qY P t x y) (cX x) (cX y)
 | .unOp op _ x => match op with
  | .not => .not (cX x)
  | .neg => .neg (cX x)
  | .xor => .inv (cX x)
  | .plus => .no
 | .convert t d x => match P.underlying t, P.underlying d with
  | some (.int _), some (.int k) => .FA k (cX x)
  | some .string, some .string => .Fz (cX x)
  | some (.slice e), some .string => match P.underlying e with
   | some (.int .u8) => .FC (cX x)
   | _ => .no
  | _, _ => .no
 | .makeInterface t x => match P.underlying t with
  | some (.interface _) => .no
  | some _ => .Ft t (cX x)
  | none => .no
 | .makeFunc fn a b => .Fu fn (zw a) (zw b)
 | .makeMap _ r => match r with
  | none => .Fq
  | some _ => .no
 | .makeSlice t l c => match P.underlying t with
  | some (.slice e) => match P.info? e with
   | some i => vu P e fun z => .Fp i.bytes z (cX l) (cX c)
   | none => .no
  | _ => .no
 | .slice t x lo hi mx => qD P t x lo hi mx
 | .fieldAddr t x i => gx P t i fun f _ => .EE (cX x) f.offset
 | .field t x i => gx P t i fun f n => bif fN P f.type then .Af (cX x) f.offset else bif jf P f.type then .Ae (cX x) f.offset n else .no
 | .indexAddr t x i => match P.underlying t with
  | some (.slice e) => uy P e fun n => .Dv (cX x) (cX i) n
  | some (.array len e) => uy P e fun n => .Dw (cX x) (cX i) len n
  | _ => .no
 | .index t x i => match P.underlying t with
  | some .string => .B5 (cX x) (cX i)
  | some (.array len e) => uy P e fun n => bif fN P e || jf P e then .Du (cX x) (cX i) len n (fN P e) else .no
  | _ => .no
 | .lookup t x i ok => mz P t fun q => AH P (rO P t) fun z => .EC q z (cX x) (cX i) ok
 | .mapUpdate t m k x => mz P t fun q => .CT q (cX m) (cX k) (cX x)
 | .insert t m k x => mz P t fun q => .CT q (cX m) (cX k) (cX x)
 | .extract x i => .ext (cX x) i
 | .range t x => match P.underlying t with
  | some (.map ..) => .FF (cX x)
  | _ => .no
 | .next x str => bif str then .no else .FH (cX x)
 | .entry x => .FK (cX x)
 | .call c => Bl P c
 | _ => .no
def rR (ops : Array Oper) (j : Nat) : Option Nat := (ops[j]?).bind (·.dst)
def lC (N : Nat) (ops : Array Oper) : Option (Nat × Bool) → Option (Option (df × Bool))
 | none => some none
 | some (j, w) => match rR ops j with
  | some d => bif Nat.blt d N then some (some (slot d, w)) else none
  | none => none
def ma (N : Nat) : Option Nat → Option (Option df)
 | none => some none
 | some d => bif Nat.blt d N then some (some (slot d)) else none
def cG (P : Program) (N : Nat) (ops : Array Oper) (o : Oper) : CG := match lC N ops o.guard, ma N o.dst with
 | some g, some d => ⟨g, d, ft P o.op⟩
 | _, _ => ⟨none, none, .no⟩
def cH (l : List Nat) (i : Nat) : Nat := List.rec 0 (fun x _ _ => x) (gF i l)
def nu (acc : List Nat) (es : List Edge) : Nat := List.rec 0 (fun e _ ih => bif Region.binds .any e then Nat.lor (Nat.lor (Nat.pow 2 e.on) (cH acc e.on)) ih else ih) es
def eD (ops : List Oper) : List Nat → List Nat := List.rec (fun acc => acc) (fun o _ ih acc => ih (j9 acc [nu acc o.after.toList])) ops
def vk (i : Nat) (o : Oper) : Bool := nw (fun e => !Region.binds .any e || Nat.blt e.on i) o.after.toList
def rQ (t : Nat) (o : Oper) : Bool := match o.dst with
 | some d => Nat.beq d t
 | none => false
def iy (M : List Nat) (i t : Nat) (ops : List Oper) : Nat → Bool := List.rec (fun _ => true) (fun o _ ih j => bif rQ t o then (Nat.beq i j || bit (cH M i) j || bit (cH M j) i) && ih (Nat.succ j) else ih (Nat.succ j)) ops
def AI (f : Nat → Bool) (x : Operand) : Bool := match x with
 | .tmp t => f t
 | _ => true
def uL (d : Option Nat) (ops : List Oper) : Bool := match d with
 | some t => nw (fun o => !rQ t o) ops
 | none => true
def nV (all : List Oper) (arr : Array Oper) (M : List Nat) (ops : List Oper) : Nat → Bool := List.rec (fun _ => true) (fun o r ih i => vk i o && (uL o.dst r && (nw (AI fun t => iy M i t all 0) o.op.operands.toList && ((match o.guard with
 | some (j, _) => (match rR arr j with
  | some t => iy M i t all 0
  | none => false)
 | none => true) && ih (Nat.succ i))))) ops
def pw (P : Program) (N : Nat) (arr : Array Oper) (ops : List Oper) : List Nat → List DG := List.rec (fun _ => []) (fun o _ ih M => ⟨cG P N arr o, cH M 0⟩ :: ih (ib M)) ops
def za (P : Program) (N id : Nat) (ops : Array Oper) : CC := let M := eD ops.toList []
 bif P.follows .mixedOrders && nV ops.toList ops M ops.toList 0 then .ET id (pw P N ops ops.toList M) else .no
def cC (P : Program) (N : Nat) : Code → CC
 | .skip => .skip
 | .label _ => .skip
 | .region id ops d => bif d then za P N id ops else .FG id (ops.toList.map (cG P N ops))
 | .seq a b => .seq (cC P N a) (cC P N b)
 | .cond c a b => .cond (cX c) (cC P N a) (cC P N b)
 | .block id b => .block id (cC P N b)
 | .loop b => .loop (cC P N b)
 | .exit id => .exit id
 | .ret => .ret
 | .rangeFunc f ps a b => match ps.toList with
  | [p] => bif Nat.blt p N then .ES (cX f) p N a b else .no
  | _ => .no
 | _ => .no
def cR (P : Program) (N : Nat) : ResultVar → CR
 | .tmp t => bif Nat.blt t N then .t (slot t) else .no
 | .cell t ty => bif Nat.blt t N then (match P.info? ty with
  | some i => bif fN P ty || jf P ty then .cell (slot t) i.size (fN P ty) else .no
  | none => .no) else .no
def cF (P : Program) (f : Func) : Option CF := bif f.name == "runtime.NumGoroutine" then none else match f.body with
 | some b => bif Nat.ble (f.params.size + f.nfree) f.ntmps && Nat.ble f.ntmps 0x100000 then some ⟨cC P f.ntmps b, f.params.size + f.nfree, (List.range (f.params.size + f.nfree)).map slot, f.results.toList.map (cR P f.ntmps)⟩ else none
 | none => none
def xg (P : Program) (f : Nat) : Bool := match P.funcs[f]? with
 | some fn => !(fn.name == "runtime.NumGoroutine") && fn.body.isSome
 | none => false
def zt (P : Program) (F : Fs) : YS := ⟨fun A N e s => bif Nat.ble N 0x100000 then lX (cC P N A) none F e s else .no [4010], xg P⟩
def u1 (P : Program) (f : Nat) : Option CF := (P.funcs[f]?).bind (cF P)
def C9 (sp : Nat → Option (List V → St → R)) (P : Program) (n f : Nat) : R := zI sp (u1 P) (zt P) n f [] ⟨.e, .lf⟩
def isTrue (r : R) : Bool := R.rec (fun _ => false) (fun v _ => match v with
 | .b x => x
 | _ => false) r
end
end Ci
namespace Ci
open Go
section
variable {α : Type} {d : α}
theorem oe : ∀ b : df, Tr.get d b .lf = d
 | .e => rfl
 | .o _ => rfl
 | .i _ => rfl
theorem dv {x : α} : ∀ (b : df) (t : Tr α), Tr.get d b (Tr.set d b x t) = x
 | .e, .lf => rfl
 | .e, .nd _ _ _ => rfl
 | .o b, .lf => dv b .lf
 | .o b, .nd _ l _ => dv b l
 | .i b, .lf => dv b .lf
 | .i b, .nd _ _ r => dv b r
theorem dw {x : α} : ∀ (b c : df) (t : Tr α), b ≠ c → Tr.get d c (Tr.set d b x t) = Tr.get d c t
 | .e, .e, _, h => absurd rfl h
 | .e, .o _, .lf, _ => (oe _)
 | .e, .o _, .nd _ _ _, _ => rfl
 | .e, .i _, .lf, _ => (oe _)
 | .e, .i _, .nd _ _ _, _ => rfl
 | .o _, .e, .lf, _ => rfl
 | .o _, .e, .nd _ _ _, _ => rfl
 | .o b, .o c, .lf, h => (dw b c .lf fun e => h (e ▸ rfl)).trans (oe c)
 | .o b, .o c, .nd _ l _, h => dw b c l fun e => h (e ▸ rfl)
 | .o _, .i _, .lf, _ => oe _
 | .o _, .i _, .nd _ _ _, _ => rfl
 | .i _, .e, .lf, _ => rfl
 | .i _, .e, .nd _ _ _, _ => rfl
 | .i _, .o _, .lf, _ => oe _
 | .i _, .o _, .nd _ _ _, _ => rfl
 | .i b, .i c, .lf, h => (dw b c .lf fun e => h (e ▸ rfl)).trans (oe c)
 | .i b, .i c, .nd _ _ r, h => dw b c r fun e => h (e ▸ rfl)
end
def df.nat : df → Nat
 | .e => 0
 | .o b => 2 * b.nat + 1
 | .i b => 2 * b.nat + 2
theorem df.jV : ∀ b : df, b.next.nat = b.nat + 1
 | .e => rfl
 | .o b => rfl
 | .i b => by
  show 2 * (b.next).nat + 1 = 2 * b.nat + 2 + 1
  rw [df.jV b]; omega
theorem df.beq_eq : ∀ {a b : df}, a.beq b = true → a = b
 | .e, .e, _ => rfl
 | .o a, .o b, h => by rw [df.beq_eq (a := a) (b := b) h]
 | .i a, .i b, h => by rw [df.beq_eq (a := a) (b := b) h]
 | .e, .o _, h => nomatch h
 | .e, .i _, h => nomatch h
 | .o _, .e, h => nomatch h
 | .o _, .i _, h => nomatch h
 | .i _, .e, h => nomatch h
 | .i _, .o _, h => nomatch h
theorem df.qH : ∀ a : df, a.beq a = true
 | .e => rfl
 | .o a => df.qH a
 | .i a => df.qH a
structure Pl where
 b : Nat
 a : Nat
 c : Nat
abbrev Th := df → Option Pl
def Th.le (θ θ' : Th) : Prop := ∀ r pl, θ r = some pl → θ' r = some pl
theorem Th.le_refl (θ : Th) : θ.le θ := fun _ _ h => h
theorem Th.le_trans {θ θ' θ'' : Th} (h : θ.le θ') (h' : θ'.le θ'') : θ.le θ'' := fun r pl hr => h' r pl (h r pl hr)
def bytesOf : Nat → Nat → List UInt8
 | 0, _ => []
 | n + 1, x => UInt8.ofNat (x % 256) :: bytesOf n (x / 256)
def cZ (n x : Nat) : ByteArray := ⟨(bytesOf n x).toArray⟩
mutual
def Rv (θ : Th) : V → Value → Prop
 | .no, _ => False
 | .i k n, x => x = .int k n
 | .b c, x => x = .bool c
 | .s n c, x => c < 256 ^ n ∧ x = .string (cZ n c)
 | .c v, x => x = v ∧ v.oneCell' = true
 | .p r off, x => ∃ pl, θ r = some pl ∧ x = .pointer (some ⟨pl.b, pl.a + off, none⟩)
 | .sl r off len cap known, x => ∃ pl, θ r = some pl ∧ x = .slice (some ⟨pl.b, pl.a + off, none⟩) len (bif known then cap else pl.c - cap) ∧ (known = false → len + cap ≤ pl.c)
 | .es, x => ∃ a c, x = .slice (some a) 0 c
 | .m r, x => ∃ pl, θ r = some pl ∧ x = .map (some pl.b)
 | .f fn a b, x => ∃ ys zs, x = .func fn ys.toArray zs.toArray ∧ fy θ a ys ∧ fy θ b zs
 | .y t v, x => ∃ y, x = .iface t y ∧ Rv θ v y
 | .agg xs, x => ∃ ys, x = .agg ys.toArray ∧ fy θ xs ys ∧ xs.all cz = true
 | .ix xs, x => ∃ ys, x = .tuple ys.toArray ∧ fy θ xs ys
 | .yl q, x => ∃ pl, θ q = some pl ∧ x = .func (.yield pl.b) #[] #[]
def fy (θ : Th) : List V → List Value → Prop
 | [], ys => ys = []
 | v :: vs, ys => ∃ y zs, ys = y :: zs ∧ Rv θ v y ∧ fy θ vs zs
end
mutual
theorem Rv.le {θ θ' : Th} (h : θ.le θ') : ∀ {v : V} {x : Value}, Rv θ v x → Rv θ' v x
 | .no, _, hv => hv
 | .i _ _, _, hv => hv
 | .b _, _, hv => hv
 | .s _ _, _, hv => hv
 | .c _, _, hv => hv
 | .p _ _, _, ⟨pl, h1, h2⟩ => ⟨pl, h _ _ h1, h2⟩
 | .sl _ _ _ _ _, _, ⟨pl, h1, h2⟩ => ⟨pl, h _ _ h1, h2⟩
 | .es, _, hv => hv
 | .m _, _, ⟨pl, h1, h2⟩ => ⟨pl, h _ _ h1, h2⟩
 | .f _ a b, _, ⟨ys, zs, h1, h2, h3⟩ => ⟨ys, zs, h1, fy.le h h2, fy.le h h3⟩
 | .y _ v, _, ⟨y, h1, h2⟩ => ⟨y, h1, Rv.le h h2⟩
 | .agg xs, _, ⟨ys, h1, h2, h3⟩ => ⟨ys, h1, fy.le h h2, h3⟩
 | .ix xs, _, ⟨ys, h1, h2⟩ => ⟨ys, h1, fy.le h h2⟩
 | .yl _, _, ⟨pl, h1, h2⟩ => ⟨pl, h _ _ h1, h2⟩
theorem fy.le {θ θ' : Th} (h : θ.le θ') : ∀ {vs : List V} {xs : List Value}, fy θ vs xs → fy θ' vs xs
 | [], _, hv => hv
 | v :: vs, _, ⟨y, zs, h1, h2, h3⟩ => ⟨y, zs, h1, Rv.le h h2, fy.le h h3⟩
end
end Ci
namespace Ci
open Go
section
variable {α : Type}
theorem pB (xs : List α) : ib xs = xs.tail := by cases xs <;> rfl
theorem fj : ∀ (n : Nat) (xs : List α), gF n xs = xs.drop n
 | 0, xs => rfl
 | n + 1, xs => by
  show gF n (ib xs) = _
  rw [fj n, pB, ← List.drop_one, List.drop_drop, Nat.add_comm]
theorem kY : ∀ (n : Nat) (xs : List α), pA n xs = xs.take n
 | 0, xs => by simp; rfl
 | n + 1, [] => by simp; rfl
 | n + 1, x :: xs => by
  show x :: pA n xs = _
  rw [kY n, List.take_succ_cons]
theorem mV : ∀ xs : List α, qj xs = xs.length
 | [] => rfl
 | x :: xs => by
  show Nat.succ (qj xs) = _
  rw [mV xs]; rfl
theorem gX : ∀ xs ys : List α, j9 xs ys = xs ++ ys
 | [], ys => rfl
 | x :: xs, ys => by
  show x :: j9 xs ys = _
  rw [gX xs]; rfl
theorem gM {xs : List α} {n : Nat} (h : fO xs n = true) : xs.length = n := by
 unfold fO at h
 rw [mV] at h
 exact nE h
end
theorem qo : ∀ {xs : List V} {v : V}, tX xs = v → v ≠ .no → xs.head? = some v
 | [], _, h, hn => absurd h.symm hn
 | x :: _, _, h, _ => by rw [← h]; rfl
theorem lJ {n : Nat} {xs : List V} {v : V} (h : qU n xs = v) (hn : v ≠ .no) : xs[n]? = some v := by
 unfold qU at h
 rw [fj] at h
 have := qo h hn
 rwa [List.head?_drop] at this
theorem pX : ∀ {vs xs r : List V}, tL vs xs = some r → vs.length ≤ xs.length ∧ r = vs ++ xs.drop vs.length
 | [], xs, r, h => ⟨Nat.zero_le _, by cases h; rfl⟩
 | v :: vs, [], r, h => by cases h
 | v :: vs, x :: xs, r, h => by
  have h : (Option.rec none (fun r => some (v :: r)) (tL vs xs) : Option (List V)) = some r := h
  cases e : tL vs xs with
  | none => rw [e] at h; cases h
  | some r' =>
   rw [e] at h
   obtain rfl := oI h
   obtain ⟨h1, h2⟩ := pX e
   exact ⟨by simp; exact h1, by rw [h2]; rfl⟩
theorem nU : ∀ {n : Nat} {vs xs r : List V}, tG n vs xs = some r → n + vs.length ≤ xs.length ∧ r = xs.take n ++ (vs ++ xs.drop (n + vs.length))
 | 0, vs, xs, r, h => by
  obtain ⟨h1, h2⟩ := pX (show tL vs xs = some r from h)
  exact ⟨by omega, by rw [h2]; simp⟩
 | n + 1, vs, [], r, h => by cases h
 | n + 1, vs, x :: xs, r, h => by
  have h : (Option.rec none (fun r => some (x :: r)) (tG n vs xs) : Option (List V)) = some r := h
  cases e : tG n vs xs with
  | none => rw [e] at h; cases h
  | some r' =>
   rw [e] at h
   obtain rfl := oI h
   obtain ⟨h1, h2⟩ := nU e
   refine ⟨by simp; omega, ?_⟩
   rw [h2, show n + 1 + vs.length = (n + vs.length) + 1 from by omega]
   rfl
theorem wq : ∀ xs : List V, sY xs = xs.all cz
 | [] => rfl
 | x :: xs => by
  show (bif cz x then sY xs else false) = _
  rw [wq xs, List.all_cons]
  cases cz x <;> rfl
theorem fy.length {θ : Th} : ∀ {vs : List V} {ys : List Value}, fy θ vs ys → vs.length = ys.length
 | [], _, h => by cases h; rfl
 | v :: vs, _, ⟨y, zs, h1, h2, h3⟩ => by rw [h1]; simp [fy.length h3]
theorem fy.get {θ : Th} : ∀ {vs : List V} {ys : List Value} {j : Nat} {v : V}, fy θ vs ys → vs[j]? = some v → ∃ y, ys[j]? = some y ∧ Rv θ v y
 | [], _, j, v, _, hj => by simp at hj
 | v :: vs, _, 0, v', ⟨y, zs, h1, h2, h3⟩, hj => by
  simp at hj; subst hj; exact ⟨y, by rw [h1]; rfl, h2⟩
 | v :: vs, _, j + 1, v', ⟨y, zs, h1, h2, h3⟩, hj => by
  simp at hj
  obtain ⟨y', h4, h5⟩ := fy.get h3 hj
  exact ⟨y', by rw [h1]; simpa using h4, h5⟩
theorem fy.app {θ : Th} : ∀ {vs vs' : List V} {ys ys' : List Value}, fy θ vs ys → fy θ vs' ys' → fy θ (vs ++ vs') (ys ++ ys')
 | [], _, _, _, h, h' => by cases h; exact h'
 | v :: vs, _, _, _, ⟨y, zs, h1, h2, h3⟩, h' => ⟨y, zs ++ _, by rw [h1]; rfl, h2, fy.app h3 h'⟩
theorem fy.take {θ : Th} : ∀ {vs : List V} {ys : List Value} (n : Nat), fy θ vs ys → fy θ (vs.take n) (ys.take n)
 | _, _, 0, h => by simp; rfl
 | [], _, n + 1, h => by cases h; rfl
 | v :: vs, _, n + 1, ⟨y, zs, h1, h2, h3⟩ => ⟨y, zs.take n, by rw [h1]; rfl, h2, fy.take n h3⟩
theorem fy.drop {θ : Th} : ∀ {vs : List V} {ys : List Value} (n : Nat), fy θ vs ys → fy θ (vs.drop n) (ys.drop n)
 | _, _, 0, h => h
 | [], _, n + 1, h => by cases h; rfl
 | v :: vs, _, n + 1, ⟨y, zs, h1, h2, h3⟩ => by rw [h1]; exact fy.drop n h3
theorem qm {θ : Th} {v : V} {y : Value} (h : Rv θ v y) (hc : cz v = true) : y.oneCell' = true := by
 cases v with
 | no => cases hc
 | agg _ => cases hc
 | ix _ => cases hc
 | i _ _ => cases h; rfl
 | b _ => cases h; rfl
 | s _ _ => rw [h.2]; rfl
 | c _ => rw [h.1]; exact h.2
 | p _ _ => obtain ⟨pl, _, h⟩ := h; rw [h]; rfl
 | sl _ _ _ _ _ => obtain ⟨pl, _, h, _⟩ := h; rw [h]; rfl
 | es => obtain ⟨a, c, h⟩ := h; rw [h]; rfl
 | m _ => obtain ⟨pl, _, h⟩ := h; rw [h]; rfl
 | f _ _ _ => obtain ⟨ys, zs, h, _⟩ := h; rw [h]; rfl
 | y _ _ => obtain ⟨y, h, _⟩ := h; rw [h]; rfl
 | yl _ => obtain ⟨pl, _, h⟩ := h; rw [h]; rfl
theorem fy.one {θ : Th} : ∀ {vs : List V} {ys : List Value}, fy θ vs ys → vs.all cz = true → ∀ y ∈ ys, y.oneCell' = true
 | [], _, h, _, y, hy => by cases h; cases hy
 | v :: vs, _, ⟨y, zs, h1, h2, h3⟩, hc, x, hx => by
  rw [List.all_cons, Bool.and_eq_true] at hc
  rw [h1] at hx
  rcases List.mem_cons.1 hx with rfl | hx
  ·exact qm h2 hc.1
  ·exact fy.one h3 hc.2 x hx
theorem qB {θ : Th} {v : V} {y : Value} (h : Rv θ v y) (hn : ∀ xs, v ≠ .ix xs) : fy θ (cellsOf v) y.cells.toList ∧ (cellsOf v).all cz = true := by
 cases v with
 | agg xs => obtain ⟨ys, rfl, h1, h2⟩ := h; exact ⟨by simpa [Value.cells, cellsOf] using h1, h2⟩
 | ix xs => exact absurd rfl (hn xs)
 | no => exact h.elim
 | _ =>
  refine ⟨?_, rfl⟩
  have h1 := qm h rfl
  have : y.cells = #[y] := by cases y <;> first | rfl | cases h1
  rw [this]
  exact ⟨y, [], rfl, h, rfl⟩
def Rm (θ : Th) : List (V × V × Nat) → List MapEntry → Prop
 | [], fs => fs = []
 | e :: es, fs => ∃ f gs, fs = f :: gs ∧ Rv θ e.1 f.key ∧ Rv θ e.2.1 f.val ∧ f.born = e.2.2 ∧ Rm θ es gs
theorem Rm.le {θ θ' : Th} (h : θ.le θ') : ∀ {es : List (V × V × Nat)} {fs : List MapEntry}, Rm θ es fs → Rm θ' es fs
 | [], _, hv => hv
 | e :: es, _, ⟨f, gs, h1, h2, h3, h4, h5⟩ => ⟨f, gs, h1, h2.le h, h3.le h, h4, Rm.le h h5⟩
def zp (st : Nat) (s : LoopState) (p : Option Code) : Prop := (st = 0 ∧ s = .ready ∧ p = none) ∨ (st = 1 ∧ s = .busy) ∨ (st = 2 ∧ s = .done ∧ p = some .ret) ∨ ∃ id, st = 3 + id ∧ s = .done ∧ p = some (.exit id)
def Ro (θ : Th) (pl : Pl) : O → Obj → Prop
 | .no, _ => False
 | .cells cs, ob => ∃ hd ys tl ty, ob = .cells (hd ++ (ys ++ tl)).toArray ty (0, 0) ∧ hd.length = pl.a ∧ fy θ cs ys ∧ cs.all cz = true
 | .grow sz cs, ob => ∃ hd ys tl ty, ob = .cells (hd ++ (ys ++ tl)).toArray ty (0, 0) ∧ hd.length = pl.a ∧ fy θ cs ys ∧ cs.all cz = true ∧ (ys ++ tl).length = pl.c * sz
 | .map es c, ob => ∃ fs, ob = .map fs.toArray c ∧ Rm θ es fs
 | .iter m since seen last, ob => pl.a = 0 ∧ ((m = none ∧ ob = .mapIter none since seen.toArray last) ∨ ∃ r pl, m = some r ∧ θ r = some pl ∧ ob = .mapIter (some pl.b) since seen.toArray last)
 | .loop A B p N e st, ob => ∃ rec : Loop, ob = .loop rec ∧ rec.assign = A ∧ rec.body = B ∧ rec.params = #[p] ∧ p < N ∧ N ≤ 2 ^ 20 ∧ Tr.get V.no rE e = .no ∧ rec.tmps.size = N ∧ (∀ t v, t < 2 ^ 20 → Tr.get V.no (slot t) e = v → v ≠ .no → ∃ x, rec.tmps[t]? = some x ∧ Rv θ v x) ∧ zp st rec.state rec.pending
 | .CU, ob => ob = .deferred (some [])
 | .qV, _ => True
theorem Ro.le {θ θ' : Th} {pl : Pl} (h : θ.le θ') : ∀ {o : O} {ob : Obj}, Ro θ pl o ob → Ro θ' pl o ob
 | .no, _, hv => hv
 | .cells cs, _, ⟨hd, ys, tl, ty, h1, h2, h3, h4⟩ => ⟨hd, ys, tl, ty, h1, h2, h3.le h, h4⟩
 | .grow sz cs, _, ⟨hd, ys, tl, ty, h1, h2, h3, h4⟩ => ⟨hd, ys, tl, ty, h1, h2, h3.le h, h4⟩
 | .map es c, _, ⟨fs, h1, h2⟩ => ⟨fs, h1, h2.le h⟩
 | .iter .., _, ⟨h0, .inl hv⟩ => ⟨h0, .inl hv⟩
 | .iter .., _, ⟨h0, .inr ⟨r, pl, h1, h2, h3⟩⟩ => ⟨h0, .inr ⟨r, pl, h1, h _ _ h2, h3⟩⟩
 | .loop .., _, ⟨rec, h1, h2, h3, h4, hp, hN, hm, h5, h6, h7⟩ => ⟨rec, h1, h2, h3, h4, hp, hN, hm, h5, fun t v ht hv hn => let ⟨x, a, b⟩ := h6 t v ht hv hn; ⟨x, a, b.le h⟩, h7⟩
 | .CU, _, hv => hv
 | .qV, _, hv => hv
structure Rel (w0 : World) (T : Nat → Prop) (θ : Th) (s : St) (w : World) : Prop where
 os : w.os = w0.os
 tape : w.tape = w0.tape
 output : w.output = w0.output
 size : w0.heap.size ≤ w.heap.size
 frame : ∀ k, k < w0.heap.size → ¬ T k → w.heap[k]? = w0.heap[k]?
 num : ∀ r pl, θ r = some pl → r.nat < s.n.nat
 new : ∀ r pl, bQ r s ≠ .no → θ r = some pl → (T pl.b ∨ w0.heap.size ≤ pl.b) ∧ pl.b < w.heap.size
 inj : ∀ r r' pl pl', bQ r s ≠ .no → bQ r' s ≠ .no → θ r = some pl → θ r' = some pl' → pl.b = pl'.b → r = r'
 mem : ∀ r, bQ r s ≠ .no → ∃ pl ob, θ r = some pl ∧ w.heap[pl.b]? = some ob ∧ Ro θ pl (bQ r s) ob
theorem gV (r : df) (o : O) (s : St) : bQ r (fx r o s) = o := dv _ _
theorem eZ {r r' : df} (o : O) (s : St) (h : r ≠ r') : bQ r' (fx r o s) = bQ r' s := dw _ _ _ h
noncomputable def Th.iL (θ : Th) (r : df) (pl : Pl) : Th := fun q => bif r.beq q then some pl else θ q
theorem Th.eN (θ : Th) (r : df) (pl : Pl) : θ.iL r pl r = some pl := by simp [Th.iL, df.qH]
theorem Th.iw (θ : Th) {r q : df} (pl : Pl) (h : r ≠ q) : θ.iL r pl q = θ q := by
 unfold Th.iL
 cases e : r.beq q with
 | true => exact absurd (df.beq_eq e) h
 | false => rfl
def Ext (s : St) (θ θ' : Th) : Prop := ∀ r, r.nat < s.n.nat → θ' r = θ r
theorem Rel.le {w0 : World} {T : Nat → Prop} {θ θ' : Th} {s : St} {w : World} (h : Rel w0 T θ s w) (he : Ext s θ θ') : θ.le θ' := fun r pl hr => (he r (h.num r pl hr)).trans hr
structure fK (w0 : World) (T : Nat → Prop) (θ : Th) (s : St) (θ' : Th) (s' : St) (w' : World) : Prop where
 ext : Ext s θ θ'
 n : s.n.nat ≤ s'.n.nat
 le : θ.le θ'
 rel : Rel w0 T θ' s' w'
section
variable {w0 : World} {T : Nat → Prop} {θ θ' θ'' : Th} {s s' s'' : St} {w w' w'' : World}
theorem Rel.post (h : Rel w0 T θ s w) : fK w0 T θ s θ s w := ⟨fun _ _ => rfl, Nat.le_refl _, θ.le_refl, h⟩
theorem fK.trans (h : fK w0 T θ s θ' s' w') (h' : fK w0 T θ' s' θ'' s'' w'') : fK w0 T θ s θ'' s'' w'' :=
 ⟨fun r hr => (h'.ext r (Nat.lt_of_lt_of_le hr h.n)).trans (h.ext r hr), Nat.le_trans h.n h'.n, Th.le_trans h.le h'.le, h'.rel⟩
theorem Rel.put {r : df} {pl : Pl} {o : O} {ob : Obj} (h : Rel w0 T θ s w) (hr : bQ r s ≠ .no) (hp : θ r = some pl) (ho : Ro θ pl o ob)
  (e1 : w'.os = w.os) (e2 : w'.tape = w.tape) (e3 : w'.output = w.output) (e4 : w'.heap.size = w.heap.size) (e5 : w'.heap[pl.b]? = some ob) (e6 : ∀ k, k ≠ pl.b → w'.heap[k]? = w.heap[k]?) : Rel w0 T θ (fx r o s) w' := by
 have hn := h.new r pl hr hp
 have lv : ∀ q, bQ q (fx r o s) ≠ .no → bQ q s ≠ .no := fun q hq => by
  by_cases e : r = q
  ·subst e; exact hr
  ·rwa [eZ o s e] at hq
 refine ⟨e1.trans h.os, e2.trans h.tape, e3.trans h.output, by rw [e4]; exact h.size, fun k hk hT => ?_, h.num, fun q pl' hl hq => by rw [e4]; exact h.new q pl' (lv q hl) hq, fun q q' pl1 pl2 hq hq' => ?_, fun q hq => ?_⟩
 ·rw [e6 k fun e => ?_]
  ·exact h.frame k hk hT
  ·subst e
   rcases hn.1 with h1 | h1
   ·exact hT h1
   ·omega
 ·refine h.inj q q' pl1 pl2 ?_ ?_
  ·by_cases e : r = q
   ·subst e; exact hr
   ·rwa [eZ o s e] at hq
  ·by_cases e : r = q'
   ·subst e; exact hr
   ·rwa [eZ o s e] at hq'
 ·by_cases e : r = q
  ·subst e
   exact ⟨pl, ob, hp, e5, by rw [gV]; exact ho⟩
  ·rw [eZ o s e] at hq ⊢
   obtain ⟨pl', ob', h1, h2, h3⟩ := h.mem q hq
   refine ⟨pl', ob', h1, ?_, h3⟩
   rw [e6 _ fun eb => e (h.inj r q pl pl' hr hq hp h1 eb.symm)]
   exact h2
theorem Rel.drop {r : df} (h : Rel w0 T θ s w) : Rel w0 T θ (fx r .no s) w := by
 have key : ∀ q, bQ q (fx r .no s) ≠ .no → bQ q s ≠ .no ∧ bQ q (fx r .no s) = bQ q s := fun q hq => by
  by_cases e : r = q
  ·subst e; rw [gV] at hq; exact absurd rfl hq
  ·rw [eZ _ s e] at hq ⊢; exact ⟨hq, rfl⟩
 exact ⟨h.os, h.tape, h.output, h.size, h.frame, h.num, fun q pl hq => h.new q pl (key q hq).1, fun q q' pl1 pl2 hq hq' => h.inj q q' pl1 pl2 (key q hq).1 (key q' hq').1, fun q hq => by rw [(key q hq).2]; exact h.mem q (key q hq).1⟩
theorem jB (o : O) (s : St) : bQ s.n (⟨s.n.next, Tr.set O.no s.n o s.m⟩ : St) = o := dv _ _
theorem fZ {o : O} {s : St} {r : df} (h : s.n ≠ r) : bQ r (⟨s.n.next, Tr.set O.no s.n o s.m⟩ : St) = bQ r s := dw _ _ _ h
theorem Rel.Di {pl : Pl} {o : O} {ob : Obj} (h : Rel w0 T θ s w) (hb : ∀ r pl', bQ r s ≠ .no → θ r = some pl' → pl'.b ≠ pl.b) (hT : T pl.b ∨ w0.heap.size ≤ pl.b)
  (e1 : w'.os = w.os) (e2 : w'.tape = w.tape) (e3 : w'.output = w.output) (e4 : w.heap.size ≤ w'.heap.size) (e4' : pl.b < w'.heap.size) (e5 : w'.heap[pl.b]? = some ob) (e6 : ∀ k, k < w.heap.size → k ≠ pl.b → w'.heap[k]? = w.heap[k]?)
  (ho : Ro θ pl o ob) : fK w0 T θ s (θ.iL s.n pl) ⟨s.n.next, Tr.set O.no s.n o s.m⟩ w' := by
 have hnn : s.n.next.nat = s.n.nat + 1 := df.jV _
 have vM : ∀ r pl', θ r = some pl' → s.n ≠ r := fun r pl' hr e => by
  subst e; have := h.num _ _ hr; omega
 have hx : Ext s θ (θ.iL s.n pl) := fun r hr => Th.iw θ pl fun e => by subst e; omega
 have hle := h.le hx
 refine ⟨hx, by show _ ≤ s.n.next.nat; omega, hle, e1.trans h.os, e2.trans h.tape, e3.trans h.output, Nat.le_trans h.size e4, fun k hk hTk => ?_, fun r pl' hr => ?_, fun r pl' hlv hr => ?_, fun r r' pl1 pl2 hr hr' h1 h2 hb' => ?_, fun r hr => ?_⟩
 ·rw [e6 k (Nat.lt_of_lt_of_le hk h.size) fun e => ?_]
  ·exact h.frame k hk hTk
  ·subst e
   rcases hT with h1 | h1
   ·exact hTk h1
   ·omega
 ·by_cases e : s.n = r
  ·subst e; show _ < s.n.next.nat; omega
  ·rw [Th.iw θ pl e] at hr
   have := h.num r pl' hr
   show _ < s.n.next.nat; omega
 ·by_cases e : s.n = r
  ·subst e
   rw [Th.eN] at hr
   obtain rfl := oI hr
   exact ⟨hT, e4'⟩
  ·rw [Th.iw θ pl e] at hr
   rw [fZ e] at hlv
   obtain ⟨h2, h3⟩ := h.new r pl' hlv hr
   exact ⟨h2, Nat.lt_of_lt_of_le h3 e4⟩
 ·by_cases e : s.n = r <;> by_cases e' : s.n = r'
  ·exact e.symm.trans e'
  ·subst e
   rw [Th.eN] at h1
   obtain rfl := oI h1
   rw [Th.iw θ pl e'] at h2
   rw [fZ e'] at hr'
   exact absurd hb'.symm (hb r' pl2 hr' h2)
  ·subst e'
   rw [Th.eN] at h2
   obtain rfl := oI h2
   rw [Th.iw θ pl e] at h1
   rw [fZ e] at hr
   exact absurd hb' (hb r pl1 hr h1)
  ·rw [Th.iw θ pl e] at h1
   rw [Th.iw θ pl e'] at h2
   rw [fZ e] at hr
   rw [fZ e'] at hr'
   exact h.inj r r' pl1 pl2 hr hr' h1 h2 hb'
 ·by_cases e : s.n = r
  ·subst e
   exact ⟨pl, ob, Th.eN .., e5, by rw [jB]; exact ho.le hle⟩
  ·rw [fZ e] at hr ⊢
   obtain ⟨pl', ob', h1, h2, h3⟩ := h.mem r hr
   refine ⟨pl', ob', by rw [Th.iw θ pl e]; exact h1, ?_, h3.le hle⟩
   rw [e6 _ (h.new r pl' hr h1).2 (hb r pl' hr h1)]
   exact h2
theorem Rel.alloc {o : O} {ob : Obj} {a c : Nat} (h : Rel w0 T θ s w) (ho : Ro θ ⟨w.heap.size, a, c⟩ o ob) :
  fK w0 T θ s (θ.iL s.n ⟨w.heap.size, a, c⟩) ⟨s.n.next, Tr.set O.no s.n o s.m⟩ { w with heap := w.heap.push ob } :=
 h.Di (fun r pl' hl hr e => absurd (h.new r pl' hl hr).2 (by rw [e]; exact Nat.lt_irrefl _)) (.inr h.size) rfl rfl rfl (by simp) (by simp) (by simp) (fun k hk _ => by
  show (w.heap.push ob)[k]? = _
  rw [Array.getElem?_push, if_neg (by omega)]) ho
end
def zr (θ : Th) (e : Env) (ds : List Deferred) : Prop := (Tr.get V.no rE e = .no ∧ ds = []) ∨ ∃ q pl, Tr.get V.no rE e = .p q 0 ∧ θ q = some pl ∧ ds = [{ target := .collected pl.b, args := #[] }]
theorem zr.le {θ θ' : Th} {e : Env} {ds : List Deferred} (h : zr θ e ds) (hl : θ.le θ') : zr θ' e ds := h.imp id fun ⟨q, pl, h1, h2, h3⟩ => ⟨q, pl, h1, hl _ _ h2, h3⟩
structure Ev (N : Nat) (θ : Th) (e : Env) (a : Act) : Prop where
 size : a.tmps.size = N
 defers : zr θ e a.defers
 has : ∀ t v, t < 2 ^ 20 → Tr.get V.no (slot t) e = v → v ≠ .no → ∃ x, a.tmps[t]? = some x ∧ Rv θ v x
theorem Ev.le {N : Nat} {θ θ' : Th} {e : Env} {a : Act} (h : Ev N θ e a) (hl : θ.le θ') : Ev N θ' e a := ⟨h.size, h.defers.le hl, fun t v ht hv hn => let ⟨x, h1, h2⟩ := h.has t v ht hv hn; ⟨x, h1, h2.le hl⟩⟩
def df.dep : df → Nat
 | .e => 0
 | .o b => b.dep + 1
 | .i b => b.dep + 1
theorem rX : ∀ (f n : Nat), (kR f n).dep ≤ f
 | 0, n => Nat.le_refl 0
 | f + 1, n => by
  have step : kR (f + 1) n = bif Nat.beq n 0 then .e else bif Nat.beq (n % 2) 1 then .i (kR f (n / 2)) else .o (kR f (n / 2)) := rfl
  rw [step]
  have h1 := rX f (n / 2)
  cases Nat.beq n 0 <;> cases Nat.beq (n % 2) 1 <;> simp only [cdT, cdF, df.dep] <;> omega
theorem po (t : Nat) : slot t ≠ rE := fun e => by
 have h := rX 20 t
 rw [show kR 20 t = slot t from rfl, e] at h
 exact absurd h (by decide)
theorem rW : ∀ {f n m : Nat}, n < 2 ^ f → m < 2 ^ f → kR f n = kR f m → n = m
 | 0, n, m, hn, hm, _ => by simp at hn hm; omega
 | f + 1, n, m, hn, hm, h => by
  have step : ∀ n, kR (f + 1) n = bif Nat.beq n 0 then .e else bif Nat.beq (n % 2) 1 then .i (kR f (n / 2)) else .o (kR f (n / 2)) := fun _ => rfl
  rw [step, step] at h
  have hn2 : n / 2 < 2 ^ f := by rw [Nat.pow_succ] at hn; omega
  have hm2 : m / 2 < 2 ^ f := by rw [Nat.pow_succ] at hm; omega
  have key : ∀ n, Nat.beq n 0 = decide (n = 0) ∧ Nat.beq (n % 2) 1 = decide (n % 2 = 1) := fun n => ⟨by cases n <;> rfl, by
   rcases Nat.mod_two_eq_zero_or_one n with e | e <;> rw [e] <;> rfl⟩
  rw [(key n).1, (key n).2, (key m).1, (key m).2] at h
  by_cases h1 : n = 0 <;> by_cases h2 : m = 0 <;> by_cases h3 : n % 2 = 1 <;> by_cases h4 : m % 2 = 1 <;> simp only [h1, h2, h3, h4, decide_true, decide_false, cdT, cdF] at h <;> first
   | omega
   | (cases h; done)
   | (have := rW hn2 hm2 (by simpa using h); omega)
end Ci
namespace Ci
open Go
def RX (θ : Th) (e : Env) (ρ : Operand → Value) (x : Operand) : Prop := ∀ v, eP (cX x) e = v → v ≠ .no → Rv θ v (ρ x)
def Ends (P : Program) (w0 : World) (T : Nat → Prop) (θ : Th) (s : St) (v : V) (s' : St) (res : Result Next) : Prop :=
 (∃ θ' x w', res = .ok (.value x) w' ∧ Rv θ' v x ∧ fK w0 T θ s θ' s' w') ∨
 (∃ θ' w', res = .ok .skip w' ∧ Rv θ' v undef ∧ fK w0 T θ s θ' s' w') ∨
 (∃ f args w1, res = .ok (.enter f args) w1 ∧ Calls P f args w1 fun e w' => ∃ θ' x, e = .returned x ∧ Rv θ' v x ∧ fK w0 T θ s θ' s' w')
section
variable {v x : V} {s s' : St} {r : R}
theorem jA (h : o4 x s = .ok v s') : x = v ∧ s = s' ∧ v ≠ .no := by
 unfold o4 rH at h
 cases x <;> first | (cases h; done) | (cases h; exact ⟨rfl, rfl, nofun⟩)
theorem ql {K : V → R} (h : rH cg x K = .ok v s') : x ≠ .no ∧ K x = .ok v s' := by
 unfold rH at h
 cases x <;> first | (cases h; done) | exact ⟨nofun, h⟩
theorem iW {K : V → R} (h : uz cg x K = .ok v s') : x ≠ .no ∧ (∀ xs, x ≠ .ix xs) ∧ K x = .ok v s' := by
 unfold uz at h
 cases x <;> first | (cases h; done) | exact ⟨nofun, fun _ => nofun, h⟩
theorem fV {K : IntKind → Int → R} (h : kS cg x K = .ok v s') : ∃ k n, x = .i k n ∧ K k n = .ok v s' := by
 unfold kS at h
 cases x <;> first | (cases h; done) | exact ⟨_, _, rfl, h⟩
theorem zj {K : Bool → R} (h : sV cg x K = .ok v s') : ∃ b, x = .b b ∧ K b = .ok v s' := by
 unfold sV at h
 cases x <;> first | (cases h; done) | exact ⟨_, rfl, h⟩
theorem qI {K : Nat → Nat → R} (h : mG cg x K = .ok v s') : ∃ n c, x = .s n c ∧ K n c = .ok v s' := by
 unfold mG at h
 cases x <;> first | (cases h; done) | exact ⟨_, _, rfl, h⟩
theorem jL {K : df → Nat → R} (h : sU cg x K = .ok v s') : ∃ r off, x = .p r off ∧ K r off = .ok v s' := by
 unfold sU at h
 cases x <;> first | (cases h; done) | exact ⟨_, _, rfl, h⟩
theorem qJ {K : List V → R} (h : asAgg cg x K = .ok v s') : ∃ xs, x = .agg xs ∧ K xs = .ok v s' := by
 unfold asAgg at h
 cases x <;> first | (cases h; done) | exact ⟨_, rfl, h⟩
theorem zi {K : List V → R} (h : rY cg x K = .ok v s') : ∃ xs, x = .ix xs ∧ K xs = .ok v s' := by
 unfold rY at h
 cases x <;> first | (cases h; done) | exact ⟨_, rfl, h⟩
theorem jt {a : Int} {K : Nat → R} (h : o6 cg a K = .ok v s') : ∃ n : Nat, a = .ofNat n ∧ K n = .ok v s' := by
 cases a with
 | ofNat n => exact ⟨n, rfl, h⟩
 | negSucc n => cases h
theorem dC {b : Bool} (h : (bif b then r else cg) = .ok v s') : b = true ∧ r = .ok v s' := by
 cases b
 ·cases h
 ·exact ⟨rfl, h⟩
theorem jr {α : Type} {o : Option α} {K : α → R} (h : (Option.rec cg K o : R) = .ok v s') : ∃ a, o = some a ∧ K a = .ok v s' := by
 cases o with
 | none => cases h
 | some a => exact ⟨a, rfl, h⟩
theorem ia {n : Nat} {cs : List V} {K : List V → R} (h : jO n cs K = .ok v s') : n ≤ cs.length ∧ K (cs.take n) = .ok v s' := by
 unfold jO at h
 rw [kY] at h
 obtain ⟨h1, h2⟩ := dC h
 have := gM h1
 rw [List.length_take] at this
 exact ⟨by omega, h2⟩
theorem sC {len : Nat} {K : Nat → R} (h : vY cg x len K = .ok v s') : ∃ k, ∃ n : Nat, x = .i k (.ofNat n) ∧ n < len ∧ K n = .ok v s' := by
 obtain ⟨k, i, rfl, h⟩ := fV h
 obtain ⟨n, rfl, h⟩ := jt h
 obtain ⟨h1, h⟩ := dC h
 exact ⟨k, n, rfl, nB h1, h⟩
end
theorem qb (b : UInt8) (bs : List UInt8) : numOf (b :: bs) = b.toNat + 256 * numOf bs := rfl
theorem tN : ∀ bs : List UInt8, numOf bs < 256 ^ bs.length
 | [] => by decide
 | b :: bs => by
  have h := tN bs
  have hb := b.toNat_lt
  rw [qb, List.length_cons, Nat.pow_succ]
  omega
theorem oR : ∀ bs : List UInt8, bytesOf bs.length (numOf bs) = bs
 | [] => rfl
 | b :: bs => by
  have hb := b.toNat_lt
  rw [qb, List.length_cons, bytesOf]
  have e1 : (b.toNat + 256 * numOf bs) % 256 = b.toNat := by omega
  have e2 : (b.toNat + 256 * numOf bs) / 256 = numOf bs := by omega
  rw [e1, e2, oR bs]
  simp
theorem wB (s : ByteArray) : cZ s.data.size (numOf s.data.toList) = s := by
 unfold cZ
 rw [← Array.length_toList, oR]
theorem gj {θ : Th} : ∀ {v : Value}, dQ v ≠ .no → Rv θ (dQ v) v := by
 intro v h
 cases v with
 | bool b => rfl
 | int k n => rfl
 | string s => exact ⟨by rw [← Array.length_toList]; exact tN _, by rw [wB]⟩
 | pointer a => cases a with
  | none => exact ⟨rfl, rfl⟩
  | some a => exact absurd rfl h
 | slice a n m => cases a with
  | none => exact ⟨rfl, rfl⟩
  | some a => exact absurd rfl h
 | map a => cases a with
  | none => exact ⟨rfl, rfl⟩
  | some a => exact absurd rfl h
 | chan a => cases a with
  | none => exact ⟨rfl, rfl⟩
  | some a => exact absurd rfl h
 | nilFunc => exact ⟨rfl, rfl⟩
 | nilIface => exact ⟨rfl, rfl⟩
 | _ => exact absurd rfl h
theorem jm {θ : Th} : ∀ {vs : List Value}, (vs.map dQ).all cz = true → fy θ (vs.map dQ) vs
 | [], _ => rfl
 | v :: vs, h => by
  rw [List.map_cons, List.all_cons, Bool.and_eq_true] at h
  exact ⟨v, vs, rfl, gj fun e => by rw [e] at h; exact absurd h.1 nofun, jm h.2⟩
theorem lU {θ : Th} {v : Value} (h : fh v ≠ .no) : Rv θ (fh v) v := by
 cases v with
 | agg xs =>
  have e : fh (.agg xs) = bif (xs.toList.map dQ).all cz then .agg (xs.toList.map dQ) else .no := rfl
  rw [e] at h ⊢
  cases hc : (xs.toList.map dQ).all cz with
  | false => rw [hc] at h; exact absurd rfl h
  | true => exact ⟨xs.toList, by simp, jm hc, hc⟩
 | tuple xs =>
  have e : fh (.tuple xs) = bif xs.size == 0 then .ix [] else .no := rfl
  rw [e] at h ⊢
  cases e : xs.size == 0 with
  | false => rw [e] at h; exact absurd rfl h
  | true =>
   have : xs = #[] := by simpa using e
   subst this
   exact ⟨[], rfl, rfl⟩
 | bool b => exact gj (v := .bool b) h
 | int k n => exact gj (v := .int k n) h
 | float k n => exact absurd rfl h
 | complex k n m => exact absurd rfl h
 | string s => exact gj (v := .string s) h
 | pointer a => exact gj (v := .pointer a) h
 | slice a n m => exact gj (v := .slice a n m) h
 | map a => exact gj (v := .map a) h
 | chan a => exact gj (v := .chan a) h
 | func a b c => exact absurd rfl h
 | nilFunc => exact gj (v := .nilFunc) h
 | iface t v => exact absurd rfl h
 | nilIface => exact gj (v := .nilIface) h
theorem hQ (k : IntKind) (n : Nat) : mf k n = k.wrap (.ofNat n) := by
 unfold mf
 cases h : Nat.ble n (kU k) with
 | false => rfl
 | true =>
  have h := nB h
  show (Int.ofNat n) = _
  have e : ((Int.ofNat n : Int)) = (n : Int) := rfl
  rw [e]
  cases k <;> simp only [kU] at h <;> simp [IntKind.wrap, IntKind.bits, IntKind.signed] <;> omega
theorem gq {ρ : Type} {f : Nat → Nat → ρ} {g : Int → Int → ρ} (h : ∀ m n : Nat, f m n = g (.ofNat m) (.ofNat n)) (a b : Int) : o7 f g a b = g a b := by
 cases a with
 | ofNat m => cases b with
  | ofNat n => exact h m n
  | negSucc n => rfl
 | negSucc m => rfl
theorem AB (k : IntKind) (a b : Int) : CL k a b = k.wrap (a + b) := gq (g := fun a b => k.wrap (a + b)) (fun m n => hQ k _) a b
theorem zC (k : IntKind) (a b : Int) : BI k a b = k.wrap (a - b) := gq (g := fun a b => k.wrap (a - b)) (fun m n => by
 unfold C3
 cases h : Nat.ble n m with
 | false => rfl
 | true =>
  have := nB h
  rw [cdT, hQ]
  congr 1
  show ((Nat.sub m n : Nat) : Int) = (m : Int) - (n : Int)
  rw [Nat.sub_eq]; omega) a b
theorem zY (k : IntKind) (a b : Int) : BZ k a b = k.wrap (a * b) := gq (g := fun a b => k.wrap (a * b)) (fun m n => hQ k _) a b
theorem qw (a b : Int) : Bh a b = decide (a = b) := gq (g := fun a b => decide (a = b)) (fun m n => by
 show Nat.beq m n = decide ((m : Int) = (n : Int))
 rw [Bool.eq_iff_iff, Nat.beq_eq, decide_eq_true_iff]; omega) a b
theorem sw (a b : Int) : yG a b = decide (a < b) := gq (g := fun a b => decide (a < b)) (fun m n => by
 show Nat.ble (m + 1) n = decide ((m : Int) < (n : Int))
 rw [Bool.eq_iff_iff, Nat.ble_eq, decide_eq_true_iff]; omega) a b
theorem yL (a b : Int) : Dp a b = decide (a ≤ b) := gq (g := fun a b => decide (a ≤ b)) (fun m n => by
 show Nat.ble m n = decide ((m : Int) ≤ (n : Int))
 rw [Bool.eq_iff_iff, Nat.ble_eq, decide_eq_true_iff]; omega) a b
theorem uk (k : IntKind) : zf k = k.bits := by cases k <;> rfl
theorem pr (a b : Nat) : xb a b = min a b := by
 unfold xb
 cases h : Nat.ble a b with
 | true => have := nB h; rw [cdT]; omega
 | false =>
  have : ¬ a ≤ b := fun h' => by rw [Nat.ble_eq_true_of_le h'] at h; cases h
  rw [cdF]; omega
theorem zF (k : IntKind) (a b : Int) : BM k a b = wH k a b := gq (g := fun a b => wH k a b) (fun m n => by
 have : ¬ ((Int.ofNat n) < 0) := by simp
 simp only [wH, this, if_false, C7, hQ, pr, uk]
 rfl) a b
theorem zE (k : IntKind) (a b : Int) : BL k a b = qS k a b := gq (g := fun a b => qS k a b) (fun m n => by
 have : ¬ ((Int.ofNat n) < 0) := by simp
 simp only [qS, this, if_false, C6, pr, uk]
 have e : ((2 : Int) ^ (min (Int.ofNat n).toNat k.bits)) = ((2 ^ (min n k.bits) : Nat) : Int) := by simp
 rw [e]
 exact congrArg some (Int.ofNat_fdiv m _)) a b
theorem zO (k : IntKind) (a b : Int) : BU k a b = wU k a b := gq (g := fun a b => wU k a b) (fun m n => by
 unfold wU
 cases h : Nat.beq n 0 with
 | true => have := nE h; subst this; rfl
 | false =>
  have := Nat.ne_of_beq_eq_false h
  rw [if_neg (by simpa using this), cdF, hQ]; rfl) a b
theorem zL (a b : Int) : BR a b = o3 a b := gq (g := fun a b => o3 a b) (fun m n => by
 unfold o3
 cases h : Nat.beq n 0 with
 | true => have := nE h; subst this; rfl
 | false =>
  have := Nat.ne_of_beq_eq_false h
  rw [if_neg (by simpa using this), cdF]; rfl) a b
theorem sv (k : IntKind) : kU k < 2 ^ k.bits := by cases k <;> decide
theorem sS {k : IntKind} {f : Nat → Nat → Nat} {g : IntKind → Int → Int → Int} (h : ∀ m n : Nat, m ≤ kU k → n ≤ kU k → (Int.ofNat (f m n)) = g k (.ofNat m) (.ofNat n)) (a b : Int) : Aw k f g a b = g k a b := gq (fun m n => by
 cases h1 : (Nat.ble m (kU k) && Nat.ble n (kU k)) with
 | false => rfl
 | true =>
  rw [Bool.and_eq_true] at h1
  exact h m n (nB h1.1) (nB h1.2)) a b
theorem B0 (k : IntKind) : kU k = 2 ^ k.bits - 1 ∨ kU k = 2 ^ (k.bits - 1) - 1 := by cases k <;> first | exact .inl rfl | exact .inr rfl
theorem iM {w m : Nat} (h : m < 2 ^ w) : (BitVec.ofInt w (Int.ofNat m)).toNat = m := by
 show (BitVec.ofInt w (m : Int)).toNat = m
 rw [BitVec.ofInt_natCast, BitVec.toNat_ofNat, Nat.mod_eq_of_lt h]
theorem vg {k : IntKind} {f : Nat → Nat → Nat} (hf : ∀ j m n, m < 2 ^ j → n < 2 ^ j → f m n < 2 ^ j) {m n : Nat} (hm : m ≤ kU k) (hn : n ≤ kU k) : f m n ≤ kU k := by
 rcases B0 k with e | e
 ·have hp : 0 < 2 ^ k.bits := Nat.two_pow_pos _
  have := hf k.bits m n (by omega) (by omega); omega
 ·have hp : 0 < 2 ^ (k.bits - 1) := Nat.two_pow_pos _
  have := hf (k.bits - 1) m n (by omega) (by omega); omega
theorem wrap_small {k : IntKind} {n : Nat} (h : n ≤ kU k) : k.wrap (n : Int) = .ofNat n := by
 have := hQ k n
 unfold mf at this
 rw [Nat.ble_eq_true_of_le h] at this
 exact this.symm
theorem AA (k : IntKind) (a b : Int) : CK k a b = eu k a b := sS (fun m n hm hn => by
 have h1 := sv k
 unfold eu
 rw [BitVec.toNat_and, iM (by omega), iM (by omega), wrap_small (vg (f := fun a b => a &&& b) (fun j m n hm hn => Nat.and_lt_two_pow _ hn) hm hn)]
 rfl) a b
theorem BW (k : IntKind) (a b : Int) : EZ k a b = zx k a b := sS (fun m n hm hn => by
 have h1 := sv k
 unfold zx
 rw [BitVec.toNat_or, iM (by omega), iM (by omega), wrap_small (vg (f := fun a b => a ||| b) (fun j m n hm hn => Nat.or_lt_two_pow hm hn) hm hn)]
 rfl) a b
theorem vw (k : IntKind) (a b : Int) : xx k a b = um k a b := sS (fun m n hm hn => by
 have h1 := sv k
 unfold um
 rw [BitVec.toNat_xor, iM (by omega), iM (by omega), wrap_small (vg (f := fun a b => a ^^^ b) (fun j m n hm hn => Nat.xor_lt_two_pow hm hn) hm hn)]
 rfl) a b
theorem sB {k k' : IntKind} (h : B4 k k' = true) : k = k' := by cases k <;> cases k' <;> first | rfl | (cases h; done)
theorem Cz (k : IntKind) (n : Int) : Fa k n = k.wrap n := by
 cases n with
 | ofNat n => exact hQ k n
 | negSucc n => rfl
end Ci
namespace Ci
open Go
variable {P : Program} {w0 : World} {T : Nat → Prop} {θ : Th} {s s' : St} {w : World} {e : Env} {ρ : Operand → Value} {F : Fs} {v : V}
variable {dst : Option Tmp} {ty : TypeId} {pos : String} {af : Array Edge} {g : Option (Nat × Bool)}
theorem Ends.val {o : Oper} {x : Value} (hr : Rel w0 T θ s w) (hv : Rv θ v x) (he : (execOp ρ o).run P w = .ok (.value x) w) : Ends P w0 T θ s v s ((execOp ρ o).run P w) := .inl ⟨θ, x, w, he, hv, hr.post⟩
theorem ao {α β : Type} {P : Program} {m : Sem α} {f : α → Sem β} {a : α} {w w' : World} (h : m.run P w = .ok a w') : (m >>= f).run P w = (f a).run P w' := by
 rw [Sem.run_bind, h]; rfl
theorem dy (b o j : Nat) : Addr.add ⟨b, o, none⟩ j = ⟨b, o + j, none⟩ := by
 unfold Addr.add; split
 ·rename_i h0; simp [h0]
 ·rfl
theorem fo {P : Program} {t : TypeId} {d : TypeDesc} {w : World} (h : P.underlying t = some d) : (underlying t).run P w = .ok d w := by simp [underlying, h]
theorem bH {P : Program} {t : TypeId} {i : TypeInfo} {w : World} (h : P.info? t = some i) : (Go.sizeOf t).run P w = .ok i.size w := by simp [Go.sizeOf, typeInfo, h]
theorem kZ {t : Nat} {K : Nat → CO} {c : CO} (h : uy P t K = c) (hc : c ≠ .no) : ∃ i, P.info? t = some i ∧ K i.size = c := by
 unfold uy at h
 split at h
 ·rename_i i hi; exact ⟨i, hi, h⟩
 ·exact absurd h.symm hc
theorem uu {xs : List V} (h : sY xs = true) : xs.all cz = true := by rw [← wq]; exact h
theorem kV {t : Nat} {K : List V → CO} {c : CO} (h : vu P t K = c) (hc : c ≠ .no) : ∃ i z, P.info? t = some i ∧ i.zero = some z ∧ (z.cells.toList.map dQ).length = i.size ∧ (z.cells.toList.map dQ).all cz = true ∧ K (z.cells.toList.map dQ) = c := by
 unfold vu at h
 split at h
 ·rename_i i hi
  split at h
  ·rename_i z hz
   cases hb : (fO (z.cells.toList.map dQ) i.size && sY (z.cells.toList.map dQ)) with
   | false => rw [hb] at h; exact absurd h.symm hc
   | true =>
    rw [hb] at h
    rw [Bool.and_eq_true] at hb
    exact ⟨i, z, hi, hz, gM hb.1, uu hb.2, h⟩
  ·exact absurd h.symm hc
 ·exact absurd h.symm hc
theorem jN {t : Nat} {i : TypeInfo} {z : Value} (hi : P.info? t = some i) (hz : i.zero = some z) (w : World) : (zeroValue t).run P w = .ok z w := by simp [zeroValue, typeInfo, hi, hz]
theorem oc {t : Nat} (h : fN P t = true) (w : World) : (isAgg t).run P w = .ok false w := by
 unfold fN at h
 cases hu : P.underlying t with
 | none => rw [hu] at h; cases h
 | some d =>
  rw [hu] at h
  unfold isAgg
  rw [ao (fo hu)]
  cases d <;> first | rfl | cases h
theorem od {t : Nat} (h : jf P t = true) (w : World) : (isAgg t).run P w = .ok true w := by
 unfold jf at h
 cases hu : P.underlying t with
 | none => rw [hu] at h; cases h
 | some d =>
  rw [hu] at h
  unfold isAgg
  rw [ao (fo hu)]
  cases d <;> first | rfl | cases h
theorem rL {t i : Nat} {K : Field → Nat → CO} {c : CO} (h : gx P t i K = c) (hc : c ≠ .no) : ∃ fs f n, P.underlying t = some (.struct fs) ∧ fs[i]? = some f ∧ (∃ inf, P.info? f.type = some inf ∧ inf.size = n) ∧ n ≠ 0 ∧ K f n = c := by
 unfold gx at h
 split at h
 ·rename_i fs hu
  split at h
  ·rename_i f hf
   obtain ⟨inf, hi, h⟩ := kZ h hc
   cases hb : Nat.beq inf.size 0 with
   | true => rw [hb] at h; exact absurd h.symm hc
   | false => rw [hb] at h; exact ⟨fs, f, _, hu, hf, ⟨inf, hi, rfl⟩, Nat.ne_of_beq_eq_false hb, h⟩
  ·exact absurd h.symm hc
 ·exact absurd h.symm hc
theorem ua {t i b off : Nat} {fs : Array Field} {f : Field} {inf : TypeInfo} (hu : P.underlying t = some (.struct fs)) (hf : fs[i]? = some f) (hi : P.info? f.type = some inf) (hn : inf.size ≠ 0) (w : World) : (Instr.fieldAt t (.pointer (some ⟨b, off, none⟩)) i).run P w = .ok (.pointer (some ⟨b, off + f.offset, none⟩)) w := by
 simp [Instr.fieldAt, fo hu, hf, Instr.sureAddr, fieldPlace, bH hi, hn, dy]
structure uw (θ : Th) (w : World) (pl : Pl) (cs : List V) (mk : List V → O) (hd ys tl : List Value) (t : Nat) : Prop where
 heap : w.heap[pl.b]? = some (.cells (hd ++ (ys ++ tl)).toArray t (0, 0))
 a : hd.length = pl.a
 vs : fy θ cs ys
 one : cs.all cz = true
 back : ∀ cs' ys', fy θ cs' ys' → cs'.all cz = true → ys'.length = ys.length → Ro θ pl (mk cs') (.cells (hd ++ (ys' ++ tl)).toArray t (0, 0))
theorem eW {o : O} {K : List V → (List V → O) → R} (h : iC cg o K = .ok v s') : ∃ cs mk, K cs mk = .ok v s' ∧ ((o = .cells cs ∧ mk = .cells) ∨ ∃ sz, o = .grow sz cs ∧ mk = .grow sz) := by
 unfold iC at h
 split at h
 ·exact ⟨_, _, h, .inl ⟨rfl, rfl⟩⟩
 ·exact ⟨_, _, h, .inr ⟨_, rfl, rfl⟩⟩
 ·cases h
theorem Rel.tS {r : df} {pl : Pl} {cs : List V} {mk : List V → O} (hr : Rel w0 T θ s w) (hp : θ r = some pl) (ho : (bQ r s = .cells cs ∧ mk = .cells) ∨ ∃ sz, bQ r s = .grow sz cs ∧ mk = .grow sz) : bQ r s ≠ .no ∧ ∃ hd ys tl t, uw θ w pl cs mk hd ys tl t := by
 rcases ho with ⟨ho, rfl⟩ | ⟨sz, ho, rfl⟩
 ·have hn : bQ r s ≠ .no := by rw [ho]; exact nofun
  obtain ⟨pl', ob, h1, h2, h3⟩ := hr.mem r hn
  rw [hp] at h1
  obtain rfl := oI h1
  rw [ho] at h3
  obtain ⟨hd, ys, tl, t, rfl, e1, e2, e3⟩ := h3
  exact ⟨hn, hd, ys, tl, t, h2, e1, e2, e3, fun cs' ys' a1 a2 a3 => ⟨hd, ys', tl, t, rfl, e1, a1, a2⟩⟩
 ·have hn : bQ r s ≠ .no := by rw [ho]; exact nofun
  obtain ⟨pl', ob, h1, h2, h3⟩ := hr.mem r hn
  rw [hp] at h1
  obtain rfl := oI h1
  rw [ho] at h3
  obtain ⟨hd, ys, tl, t, rfl, e1, e2, e3, e4⟩ := h3
  exact ⟨hn, hd, ys, tl, t, h2, e1, e2, e3, fun cs' ys' a1 a2 a3 => ⟨hd, ys', tl, t, rfl, e1, a1, a2, by rw [List.length_append] at e4 ⊢; omega⟩⟩
section
variable {pl : Pl} {cs : List V} {mk : List V → O} {hd ys tl : List Value} {t : Nat}
theorem uw.cell (h : uw θ w pl cs mk hd ys tl t) {j : Nat} {x : Value} (hj : ys[j]? = some x) : w.cell? ⟨pl.b, pl.a + j, none⟩ = some x := by
 have : ((hd ++ (ys ++ tl)).toArray)[pl.a + j]? = some x := by
  rw [List.getElem?_toArray, ← h.a, List.getElem?_append_right (Nat.le_add_right _ _), Nat.add_sub_cancel_left, List.getElem?_append_left (List.getElem?_eq_some_iff.1 hj).1]
  exact hj
 simp [World.cell?, h.heap, this]
theorem uw.load (h : uw θ w pl cs mk hd ys tl t) {off n : Nat} (hn : off + n ≤ cs.length) : (loadCells ⟨pl.b, pl.a + off, none⟩ n).run P w = .ok ((ys.drop off).take n).toArray w := by
 have hl := h.vs.length
 have hlen : ((ys.drop off).take n).length = n := by simp; omega
 have := run_loadCells_list (P := P) (w := w) ⟨pl.b, pl.a + off, none⟩ ((ys.drop off).take n) fun j x hj => by
  rw [dy, Nat.add_assoc]
  refine h.cell ?_
  rw [List.getElem?_take] at hj
  split at hj
  ·rwa [List.getElem?_drop] at hj
  ·cases hj
 rwa [hlen] at this
theorem jP {r : df} {off : Nat} {vs : List V} {K : St → R} (h : lb r off vs s K = .ok v s') (hr : Rel w0 T θ s w) (hp : θ r = some pl) {us : List Value} (hv : fy θ vs us) (hc : vs.all cz = true) :
  ∃ s1 w1, K s1 = .ok v s' ∧ s1.n = s.n ∧ Rel w0 T θ s1 w1 ∧ (storeCells ⟨pl.b, pl.a + off, none⟩ us).run P w = .ok () w1 := by
 unfold lb at h
 obtain ⟨cs, mk, h, ho⟩ := eW h
 obtain ⟨cs', hp', h⟩ := jr (K := fun cs => K (fx r (mk cs) s)) h
 obtain ⟨hn, hd, ys, tl, t, L⟩ := hr.tS hp ho
 obtain ⟨h1, rfl⟩ := nU hp'
 have hl := L.vs.length
 have hvl := hv.length
 have hrun := run_storeCells_at (P := P) pl.b (pl.a + off) t us 0 _ w L.heap (by simp [L.a]; omega) (hv.one hc)
 generalize hw : w.setRow _ _ = w1 at hrun
 refine ⟨_, w1, h, rfl, hr.put hn hp (L.back _ (ys.take off ++ (us ++ ys.drop (off + us.length))) ?_ ?_ ?_) (by subst hw; rfl) (by subst hw; rfl) (by subst hw; rfl) ?_ ?_ ?_, hrun⟩
 ·rw [hvl]; exact (L.vs.take off).app (hv.app (L.vs.drop _))
 ·have := L.one
  rw [List.all_eq_true] at this hc ⊢
  intro x hx
  simp only [List.mem_append] at hx
  rcases hx with hx | hx | hx
  ·exact this x (List.mem_of_mem_take hx)
  ·exact hc x hx
  ·exact this x (List.mem_of_mem_drop hx)
 ·simp; omega
 ·subst hw; simp [World.setRow]
 ·subst hw; rw [setRow_heap w _ _ _ _ _ L.heap]
  congr 2
  rw [Nat.add_zero, ← L.a]
  simp only [List.toList_toArray]
  rw [Nat.add_assoc, List.take_length_add_append, List.drop_length_add_append, List.take_append_of_le_length (by omega), List.drop_append_of_le_length (by omega)]
  simp [List.append_assoc]
 ·intro k hk
  subst hw
  exact setRow_other w _ k _ hk
end
end Ci
namespace Ci
open Go
variable {P : Program} {w0 : World} {T : Nat → Prop} {θ : Th} {s s' : St} {w : World} {e : Env} {ρ : Operand → Value} {F : Fs} {v : V}
variable {dst : Option Tmp} {ty : TypeId} {pos : String} {af : Array Edge} {g : Option (Nat × Bool)}
theorem DJ {x : Operand} (h : C5 (cX x) F e s = .ok v s') (hx : RX θ e ρ x) (hr : Rel w0 T θ s w) (o : Oper) (ho : execOp ρ o = pure (.value (ρ x))) : Ends P w0 T θ s v s' ((execOp ρ o).run P w) := by
 obtain ⟨h1, rfl, h2⟩ := jA h
 exact .val hr (hx _ h1 h2) (by rw [ho]; rfl)
theorem Cb {c x y : Operand} (h : xK (cX c) (cX x) (cX y) F e s = .ok v s') (hc : RX θ e ρ c) (hx : RX θ e ρ x) (hy : RX θ e ρ y) (hr : Rel w0 T θ s w) : Ends P w0 T θ s v s' ((execOp ρ ⟨dst, .pick c x y, ty, pos, af, g⟩).run P w) := by
 obtain ⟨b, hb, h⟩ := zj h
 obtain ⟨h1, h⟩ := ql h
 obtain ⟨h2, h⟩ := ql h
 cases h
 have hc : ρ c = .bool b := hc _ hb nofun
 cases b with
 | true => exact .val hr (hx _ rfl h1) (by simp [execOp, hc, asBool])
 | false => exact .val hr (hy _ rfl h2) (by simp [execOp, hc, asBool])
theorem DF {x : Operand} {t : Nat} (h : AN (cX x) F e s = .ok v s') (hx : RX θ e ρ x) (hr : Rel w0 T θ s w) : Ends P w0 T θ s v s' ((execOp ρ ⟨dst, .unOp .not t x, ty, pos, af, g⟩).run P w) := by
 obtain ⟨b, hb, h⟩ := zj h
 cases h
 have hc : ρ x = .bool b := hx _ hb nofun
 exact .val (x := .bool (!b)) hr rfl (by simp [execOp, hc, Op.unary])
theorem DI {x : Operand} {t : Nat} (h : AO (cX x) F e s = .ok v s') (hx : RX θ e ρ x) (hr : Rel w0 T θ s w) : Ends P w0 T θ s v s' ((execOp ρ ⟨dst, .unOp .neg t x, ty, pos, af, g⟩).run P w) := by
 obtain ⟨k, n, hb, h⟩ := fV h
 cases h
 have hc : ρ x = .int k n := hx _ hb nofun
 exact .val (x := .int k (k.wrap (0 - n))) hr rfl (by simp [execOp, hc, Op.unary, Op.intArith])
theorem DU {x : Operand} {t : Nat} (h : AV (cX x) F e s = .ok v s') (hx : RX θ e ρ x) (hr : Rel w0 T θ s w) : Ends P w0 T θ s v s' ((execOp ρ ⟨dst, .unOp .xor t x, ty, pos, af, g⟩).run P w) := by
 obtain ⟨k, n, hb, h⟩ := fV h
 cases h
 have hc : ρ x = .int k n := hx _ hb nofun
 refine .val (x := .int k (um k (bif k.signed then -1 else k.max) n)) hr (by rw [vw]; rfl) ?_
 simp [execOp, hc, Op.unary, Op.intBits, um]
 cases k.signed <;> rfl
theorem DZ {x : Operand} {t d : Nat} {k k0 : IntKind} (h : A0 k (cX x) F e s = .ok v s') (hx : RX θ e ρ x) (hr : Rel w0 T θ s w) (ht : P.underlying t = some (.int k0)) (hd : P.underlying d = some (.int k)) : Ends P w0 T θ s v s' ((execOp ρ ⟨dst, .convert t d x, ty, pos, af, g⟩).run P w) := by
 obtain ⟨k', n, hb, h⟩ := fV h
 cases h
 have hc : ρ x = .int k' n := hx _ hb nofun
 exact .val (x := .int k (k.wrap n)) hr (by rw [Cz]; rfl) (by simp [execOp, hc, convert, fo ht, fo hd, Conv.intToInt])
theorem DY {x : Operand} {t d : Nat} (h : AZ (cX x) F e s = .ok v s') (hx : RX θ e ρ x) (hr : Rel w0 T θ s w) (ht : P.underlying t = some .string) (hd : P.underlying d = some .string) : Ends P w0 T θ s v s' ((execOp ρ ⟨dst, .convert t d x, ty, pos, af, g⟩).run P w) := by
 obtain ⟨n, c, hb, h⟩ := qI h
 cases h
 obtain ⟨h1, hc⟩ := hx _ hb nofun
 exact .val (x := .string (cZ n c)) hr ⟨h1, rfl⟩ (by simp [execOp, hc, convert, fo ht, fo hd])
theorem Cc {x : Operand} (h : pC (cX x) F e s = .ok v s') (hx : RX θ e ρ x) (hr : Rel w0 T θ s w) : Ends P w0 T θ s v s' ((execOp ρ ⟨dst, .nilCheck x, ty, pos, af, g⟩).run P w) := by
 unfold pC at h
 split at h
 ·rename_i r off hb
  cases h
  have hv := hx _ hb nofun
  obtain ⟨pl, h1, hc⟩ := hv
  exact .val hr ⟨pl, h1, rfl⟩ (by simp [execOp, hc])
 ·rename_i f as bs hb
  cases h
  have hv := hx _ hb nofun
  obtain ⟨ys, zs, hc, h2, h3⟩ := hv
  exact .val hr ⟨ys, zs, rfl, h2, h3⟩ (by simp [execOp, hc])
 ·cases h
theorem DM {x : Operand} {t : Nat} (h : AP t (cX x) F e s = .ok v s') (hx : RX θ e ρ x) (hr : Rel w0 T θ s w) {d : TypeDesc} (ht : P.underlying t = some d) (hd : ∀ ms, d ≠ .interface ms) : Ends P w0 T θ s v s' ((execOp ρ ⟨dst, .makeInterface t x, ty, pos, af, g⟩).run P w) := by
 obtain ⟨h1, _, h⟩ := iW h
 cases h
 refine .val (x := .iface t (ρ x)) hr ⟨_, rfl, hx _ rfl h1⟩ ?_
 simp only [execOp, Instr.makeInterface]
 rw [ao (a := Value.iface t (ρ x)) (w' := w)]
 ·rfl
 ·rw [ao (fo ht)]
  cases d <;> first | rfl | exact absurd rfl (hd _)
theorem lR {θ : Th} {ρ : Operand → Value} {e : Env} : ∀ {xs : List Operand} {K : List V → R}, oi (xs.map cX) e K = .ok v s' → (∀ x ∈ xs, RX θ e ρ x) → ∃ vs, K vs = .ok v s' ∧ fy θ vs (xs.map ρ)
 | [], K, h, _ => ⟨[], h, rfl⟩
 | x :: xs, K, h, hx => by
  obtain ⟨h1, h⟩ := ql (K := fun v => oi (xs.map cX) e fun vs => K (v :: vs)) h
  obtain ⟨vs, h2, h3⟩ := lR h fun y hy => hx y (List.mem_cons_of_mem _ hy)
  exact ⟨_, h2, ρ x, xs.map ρ, rfl, hx x (List.mem_cons_self ..) _ rfl h1, h3⟩
theorem DN {fn : Fn} {as bs : Array Operand} (h : AQ fn (zw as) (zw bs) F e s = .ok v s') (ha : ∀ x ∈ as.toList, RX θ e ρ x) (hb : ∀ x ∈ bs.toList, RX θ e ρ x) (hr : Rel w0 T θ s w) : Ends P w0 T θ s v s' ((execOp ρ ⟨dst, .makeFunc fn as bs, ty, pos, af, g⟩).run P w) := by
 obtain ⟨vs, h, h1⟩ := lR h ha
 obtain ⟨us, h, h2⟩ := lR h hb
 cases h
 exact .val (x := .func fn (as.map ρ) (bs.map ρ)) hr ⟨_, _, by rw [← Array.toList_map, ← Array.toList_map, Array.toArray_toList, Array.toArray_toList], h1, h2⟩ (by simp [execOp, Instr.makeFunc])
theorem DW {x : Operand} {i : Nat} (h : AX (cX x) i F e s = .ok v s') (hx : RX θ e ρ x) (hr : Rel w0 T θ s w) : Ends P w0 T θ s v s' ((execOp ρ ⟨dst, .extract x i, ty, pos, af, g⟩).run P w) := by
 obtain ⟨xs, hb, h⟩ := zi h
 obtain ⟨h1, rfl, h2⟩ := jA h
 obtain ⟨ys, hc, h3⟩ := hx _ hb nofun
 obtain ⟨y, hy, h4⟩ := h3.get (lJ h1 h2)
 exact .val hr h4 (by simp [execOp, hc, Instr.extract, hy])
theorem DV {x : Operand} {t i n : Nat} {fs : Array Field} {f : Field} {inf : TypeInfo} (h : AW (cX x) f.offset F e s = .ok v s') (hx : RX θ e ρ x) (hr : Rel w0 T θ s w) (hu : P.underlying t = some (.struct fs)) (hf : fs[i]? = some f) (hi : P.info? f.type = some inf) (hn : inf.size ≠ 0) : Ends P w0 T θ s v s' ((execOp ρ ⟨dst, .fieldAddr t x i, ty, pos, af, g⟩).run P w) := by
 obtain ⟨r, off, hb, h⟩ := jL h
 cases h
 obtain ⟨pl, h1, hc⟩ := hx _ hb nofun
 refine .val (x := .pointer (some ⟨pl.b, pl.a + (off + f.offset), none⟩)) hr ⟨pl, h1, rfl⟩ ?_
 simp only [execOp, hc]
 rw [ao (ua hu hf hi hn w), Nat.add_assoc]
 rfl
theorem tI {t : Nat} {cs : List V} {ys : List Value} {off : Nat} (ho : fN P t = true) (hv : fy θ cs ys) (h : qU off cs = v) (hn : v ≠ .no) : ∃ y, Rv θ v y ∧ ∀ w, (part t ys.toArray off).run P w = .ok y w := by
 obtain ⟨y, hy, h4⟩ := hv.get (lJ h hn)
 exact ⟨y, h4, fun w => by simp [part, oc ho, hy]⟩
theorem tJ {t n : Nat} {inf : TypeInfo} {cs : List V} {ys : List Value} {off : Nat} (ho : jf P t = true) (hi : P.info? t = some inf) (hs : inf.size = n) (hv : fy θ cs ys) (ha : cs.all cz = true) (hn : n ≤ (cs.drop off).length) : ∃ y, Rv θ (.agg ((cs.drop off).take n)) y ∧ ∀ w, (part t ys.toArray off).run P w = .ok y w := by
 refine ⟨.agg ((ys.drop off).take n).toArray, ⟨_, rfl, (hv.drop off).take n, ?_⟩, fun w => ?_⟩
 ·rw [List.all_eq_true] at ha ⊢
  exact fun x hx => ha x (List.mem_of_mem_drop (List.mem_of_mem_take hx))
 ·simp [part, od ho, bH hi, hs, List.extract_eq_take_drop]
theorem Cm {x : Operand} {t i : Nat} {fs : Array Field} {f : Field} (h : xS (cX x) f.offset F e s = .ok v s') (hx : RX θ e ρ x) (hr : Rel w0 T θ s w) (hu : P.underlying t = some (.struct fs)) (hf : fs[i]? = some f) (ho : fN P f.type = true) : Ends P w0 T θ s v s' ((execOp ρ ⟨dst, .field t x i, ty, pos, af, g⟩).run P w) := by
 obtain ⟨xs, hb, h⟩ := qJ h
 obtain ⟨h1, rfl, h2⟩ := jA h
 obtain ⟨ys, hc, h3, h4⟩ := hx _ hb nofun
 obtain ⟨y, hy, hp⟩ := tI ho h3 h1 h2
 refine .val hr hy ?_
 have : (Instr.field t (ρ x) i).run P w = .ok y w := by
  rw [hc]; unfold Instr.field; rw [ao (fo hu)]; simp only [hf, asAgg]; exact hp w
 simp only [execOp]
 rw [ao this]
 rfl
theorem Cl {x : Operand} {t i n : Nat} {fs : Array Field} {f : Field} {inf : TypeInfo} (h : xR (cX x) f.offset n F e s = .ok v s') (hx : RX θ e ρ x) (hr : Rel w0 T θ s w) (hu : P.underlying t = some (.struct fs)) (hf : fs[i]? = some f) (ho : jf P f.type = true) (hi : P.info? f.type = some inf) (hs : inf.size = n) : Ends P w0 T θ s v s' ((execOp ρ ⟨dst, .field t x i, ty, pos, af, g⟩).run P w) := by
 obtain ⟨xs, hb, h⟩ := qJ h
 rw [fj] at h
 obtain ⟨h1, h⟩ := ia h
 cases h
 obtain ⟨ys, hc, h3, h4⟩ := hx _ hb nofun
 obtain ⟨y, hy, hp⟩ := tJ ho hi hs h3 h4 h1
 refine .val hr hy ?_
 have : (Instr.field t (ρ x) i).run P w = .ok y w := by
  rw [hc]; unfold Instr.field; rw [ao (fo hu)]; simp only [hf, asAgg]; exact hp w
 simp only [execOp]
 rw [ao this]
 rfl
theorem DT {x : Operand} {t : Nat} (h : AU (cX x) F e s = .ok v s') (hx : RX θ e ρ x) (hr : Rel w0 T θ s w) (ho : fN P t = true) : Ends P w0 T θ s v s' ((execOp ρ ⟨dst, .load t x, ty, pos, af, g⟩).run P w) := by
 obtain ⟨r, off, hb, h⟩ := jL h
 obtain ⟨cs, mk, h, hm⟩ := eW h
 obtain ⟨h1, rfl, h2⟩ := jA h
 obtain ⟨pl, hp, hc⟩ := hx _ hb nofun
 obtain ⟨hn, hd, ys, tl, ct, L⟩ := hr.tS hp hm
 obtain ⟨y, hy, h4⟩ := L.vs.get (lJ h1 h2)
 refine .val hr h4 ?_
 simp [execOp, hc, Instr.loadAt, Instr.sureAddr, loadVar, oc ho, L.cell hy]
theorem DR {x : Operand} {t n : Nat} {inf : TypeInfo} (h : AT (cX x) n F e s = .ok v s') (hx : RX θ e ρ x) (hr : Rel w0 T θ s w) (ho : jf P t = true) (hi : P.info? t = some inf) (hs : inf.size = n) : Ends P w0 T θ s v s' ((execOp ρ ⟨dst, .load t x, ty, pos, af, g⟩).run P w) := by
 obtain ⟨r, off, hb, h⟩ := jL h
 obtain ⟨cs, mk, h, hm⟩ := eW h
 rw [fj] at h
 obtain ⟨h1, h⟩ := ia h
 cases h
 obtain ⟨pl, hp, hc⟩ := hx _ hb nofun
 obtain ⟨hn, hd, ys, tl, ct, L⟩ := hr.tS hp hm
 have h1' : off + n ≤ cs.length ∨ n = 0 := by rw [List.length_drop] at h1; omega
 refine .val (x := .agg ((ys.drop off).take n).toArray) hr ⟨_, rfl, (L.vs.drop off).take n, ?_⟩ ?_
 ·have := L.one
  rw [List.all_eq_true] at this ⊢
  exact fun x hx => this x (List.mem_of_mem_drop (List.mem_of_mem_take hx))
 ·have hload : (loadCells ⟨pl.b, pl.a + off, none⟩ n).run P w = .ok ((ys.drop off).take n).toArray w := by
   rcases h1' with h1' | rfl
   ·exact L.load h1'
   ·simp [loadCells, loadCellsFrom]
  simp [execOp, hc, Instr.loadAt, Instr.sureAddr, loadVar, od ho, bH hi, hs, hload]
theorem E9 {x y : Operand} {t n : Nat} {inf : TypeInfo} (h : C4 (cX x) n (cX y) F e s = .ok v s') (hx : RX θ e ρ x) (hy : RX θ e ρ y) (hr : Rel w0 T θ s w) (hi : P.info? t = some inf) (hs : inf.size = n) : Ends P w0 T θ s v s' ((execOp ρ ⟨dst, .store t x y, ty, pos, af, g⟩).run P w) := by
 obtain ⟨r, off, hb, h⟩ := jL h
 obtain ⟨h1, h2, h⟩ := iW h
 obtain ⟨h3, h⟩ := dC h
 obtain ⟨pl, hp, hc⟩ := hx _ hb nofun
 obtain ⟨h4, h5⟩ := qB (hy _ rfl h1) h2
 obtain ⟨s1, w1, hk, hn, hr', hrun⟩ := jP (P := P) h hr hp h4 h5
 cases hk
 have hlen : (ρ y).cells.size = inf.size := by rw [← Array.length_toList, ← h4.length, gM h3, hs]
 refine .inr (.inl ⟨θ, w1, ?_, ⟨[], rfl, rfl⟩, ⟨fun _ _ => rfl, by rw [hn]; exact Nat.le_refl _, θ.le_refl, hr'⟩⟩)
 simp [execOp, hc, Instr.storeAt, Instr.sureAddr, storeVar, bH hi, hlen, hrun]
def jM (P : Program) (θ : Th) (w : World) (o : O) (mk : df → V) (res : Result Next) : Prop := ∃ X ob, res = .ok (.value X) { w with heap := w.heap.push ob } ∧ Ro θ ⟨w.heap.size, 0, 0⟩ o ob ∧ ∀ (θ' : Th) q, θ' q = some ⟨w.heap.size, 0, 0⟩ → Rv θ' (mk q) X
theorem jM.ends {o : O} {mk : df → V} {res : Result Next} (h : jM P θ w o mk res) (hr : Rel w0 T θ s w) : Ends P w0 T θ s (mk s.n) ⟨s.n.next, Tr.set O.no s.n o s.m⟩ res := by
 obtain ⟨X, ob, h1, h2, h3⟩ := h
 exact .inl ⟨_, X, _, h1, h3 _ _ (Th.eN ..), hr.alloc h2⟩
theorem Bs {x : Operand} {t : Nat} (hx : RX θ e ρ x) (h1 : eP (cX x) e ≠ .no) (h2 : ∀ xs, eP (cX x) e ≠ .ix xs) : jM P θ w (.cells (cellsOf (eP (cX x) e))) (fun q => .p q 0) ((execOp ρ ⟨dst, .box t x, ty, pos, af, g⟩).run P w) := by
 obtain ⟨h4, h5⟩ := qB (hx _ rfl h1) h2
 refine ⟨.pointer (some ⟨w.heap.size, 0, none⟩), .cells (ρ x).cells t (0, 0), ?_, ⟨[], (ρ x).cells.toList, [], t, by simp, rfl, h4, h5⟩, fun θ' q hq => ⟨_, hq, rfl⟩⟩
 simp [execOp, Instr.box, newVar, newRow, newObj]
 rfl
theorem D2 {x : Operand} {t : Nat} (h : vD (cX x) F e s = .ok v s') (hx : RX θ e ρ x) (hr : Rel w0 T θ s w) : Ends P w0 T θ s v s' ((execOp ρ ⟨dst, .box t x, ty, pos, af, g⟩).run P w) := by
 obtain ⟨h1, h2, h⟩ := iW h
 unfold fG at h
 cases h
 exact (Bs hx h1 h2).ends hr
theorem Bo {t : Nat} {inf : TypeInfo} {z : Value} (hi : P.info? t = some inf) (hz : inf.zero = some z) (hc : (z.cells.toList.map dQ).all cz = true) : jM P θ w (.cells (z.cells.toList.map dQ)) (fun q => .p q 0) ((execOp ρ ⟨dst, .alloc t, ty, pos, af, g⟩).run P w) := by
 refine ⟨.pointer (some ⟨w.heap.size, 0, none⟩), .cells z.cells t (0, 0), ?_, ⟨[], z.cells.toList, [], t, by simp, rfl, jm hc, hc⟩, fun θ' q hq => ⟨_, hq, rfl⟩⟩
 simp [execOp, Instr.alloc, jN hi hz, newVar, newRow, newObj]
 rfl
theorem DH {t : Nat} {inf : TypeInfo} {z : Value} (h : pD (z.cells.toList.map dQ) F e s = .ok v s') (hr : Rel w0 T θ s w) (hi : P.info? t = some inf) (hz : inf.zero = some z) (hc : (z.cells.toList.map dQ).all cz = true) : Ends P w0 T θ s v s' ((execOp ρ ⟨dst, .alloc t, ty, pos, af, g⟩).run P w) := by
 unfold pD fG at h
 cases h
 exact (Bo hi hz hc).ends hr
end Ci
namespace Ci
open Go
variable {P : Program} {w0 : World} {T : Nat → Prop} {θ : Th} {s s' : St} {w : World} {e : Env} {ρ : Operand → Value} {F : Fs} {v : V}
variable {dst : Option Tmp} {ty : TypeId} {pos : String} {af : Array Edge} {g : Option (Nat × Bool)}
theorem gg : ∀ (n x : Nat), (bytesOf n x).length = n
 | 0, _ => rfl
 | n + 1, x => by simp [bytesOf, gg n]
theorem jv : ∀ (n m a b : Nat), a < 256 ^ n → bytesOf (n + m) (a + b * 256 ^ n) = bytesOf n a ++ bytesOf m b
 | 0, m, a, b, h => by
  simp at h; subst h; simp [bytesOf]
 | n + 1, m, a, b, h => by
  rw [Nat.pow_succ] at h
  have e1 : (a + b * 256 ^ (n + 1)) % 256 = a % 256 := by rw [Nat.pow_succ, ← Nat.mul_assoc]; omega
  have e2 : (a + b * 256 ^ (n + 1)) / 256 = a / 256 + b * 256 ^ n := by rw [Nat.pow_succ, ← Nat.mul_assoc]; omega
  rw [show n + 1 + m = (n + m) + 1 by omega, bytesOf, e1, e2, jv n m _ b (by omega)]
  rfl
theorem oS : ∀ {n a b : Nat}, a < 256 ^ n → b < 256 ^ n → bytesOf n a = bytesOf n b → a = b
 | 0, a, b, ha, hb, _ => by simp at ha hb; omega
 | n + 1, a, b, ha, hb, h => by
  rw [Nat.pow_succ] at ha hb
  simp only [bytesOf, List.cons.injEq] at h
  have h2 := oS (n := n) (by omega) (by omega) h.2
  have h1 := congrArg UInt8.toNat h.1
  simp at h1
  omega
theorem nm : ∀ (l n x : Nat), (bytesOf n x).drop l = bytesOf (n - l) (x / 256 ^ l)
 | 0, n, x => by simp
 | l + 1, 0, x => by simp [bytesOf]
 | l + 1, n + 1, x => by
  rw [bytesOf, List.drop_succ_cons, nm l n, Nat.div_div_eq_div_mul, Nat.pow_succ, Nat.mul_comm, show n + 1 - (l + 1) = n - l by omega]
theorem nk : ∀ (m n x : Nat), m ≤ n → (bytesOf n x).take m = bytesOf m (x % 256 ^ m)
 | 0, n, x, _ => rfl
 | m + 1, 0, x, h => by omega
 | m + 1, n + 1, x, h => by
  have e1 : x % 256 ^ (m + 1) % 256 = x % 256 := by
   rw [Nat.pow_succ, Nat.mul_comm, Nat.mod_mul_right_mod]
  have e2 : x % 256 ^ (m + 1) / 256 = x / 256 % 256 ^ m := by
   rw [Nat.pow_succ, Nat.mul_comm, Nat.mod_mul_right_div_self]
  rw [bytesOf, List.take_succ_cons, nk m n _ (by omega), bytesOf, e1, e2]
theorem oT : ∀ {i n x : Nat}, i < n → (bytesOf n x)[i]? = some (UInt8.ofNat (x / 256 ^ i % 256))
 | 0, n + 1, x, _ => by simp [bytesOf]
 | i + 1, n + 1, x, h => by
  rw [bytesOf, List.getElem?_cons_succ, oT (by omega), Nat.div_div_eq_div_mul, Nat.pow_succ, Nat.mul_comm]
theorem gI (n x : Nat) : (cZ n x).size = n := by
 show (bytesOf n x).toArray.size = n
 rw [List.size_toArray, gg]
theorem dt (n x : Nat) : (cZ n x).data.toList = bytesOf n x := by simp [cZ]
theorem wC {n m a b : Nat} (h : a < 256 ^ n) : cZ n a ++ cZ m b = cZ (n + m) (a + b * 256 ^ n) := by
 have : (cZ n a ++ cZ m b).data = (cZ (n + m) (a + b * 256 ^ n)).data := by
  apply Array.ext'
  rw [ByteArray.toList_data_append, dt, dt, dt, jv _ _ _ _ h]
 exact ByteArray.ext this
theorem nM {n m a b : Nat} (ha : a < 256 ^ n) (hb : b < 256 ^ m) : ((cZ n a).toList == (cZ m b).toList) = (Nat.beq n m && Nat.beq a b) := by
 rw [ByteArray.toList_eq, ByteArray.toList_eq, dt, dt, Bool.eq_iff_iff, beq_iff_eq, Bool.and_eq_true, Nat.beq_eq, Nat.beq_eq]
 refine ⟨fun h => ?_, fun h => by rw [h.1, h.2]⟩
 have hl := congrArg List.length h
 rw [gg, gg] at hl
 subst hl
 exact ⟨rfl, oS ha hb h⟩
theorem mm {n m a b : Nat} (ha : a < 256 ^ n) (hb : b < 256 ^ m) : (cZ n a == cZ m b) = (Nat.beq n m && Nat.beq a b) := by
 have e : (cZ n a == cZ m b) = ((cZ n a).data == (cZ m b).data) := rfl
 rw [← nM ha hb, e, Bool.eq_iff_iff, beq_iff_eq, beq_iff_eq, ByteArray.toList_eq, ByteArray.toList_eq]
 exact ⟨fun h => by rw [h], fun h => Array.ext' h⟩
theorem rU {θ : Th} : ∀ (n x : Nat), fy θ (sN n x) ((bytesOf n x).map fun b => .int .u8 b.toNat) ∧ (sN n x).all cz = true
 | 0, x => ⟨rfl, rfl⟩
 | n + 1, x => by
  have h := rU (θ := θ) n (x / 256)
  refine ⟨⟨_, _, rfl, ?_, h.1⟩, by show ((V.i .u8 (.ofNat (x % 256)) :: sN n (x / 256)).all cz) = true; rw [List.all_cons, h.2]; rfl⟩
  show Value.int .u8 _ = .int .u8 _
  congr 1
  show ((UInt8.ofNat (x % 256)).toNat : Int) = ((x % 256 : Nat) : Int)
  simp
theorem kB {k k' : IntKind} {op : BinOp} {a b : Int} (h : sF op k k' a b = v) (hn : v ≠ .no) : Dt op k a b = v ∧ (sE op = true ∨ k = k') := by
 unfold sF at h
 cases hb : (sE op || B4 k k') with
 | false => rw [hb] at h; exact absurd h.symm hn
 | true =>
  rw [hb] at h
  rw [Bool.or_eq_true] at hb
  exact ⟨h, hb.imp id sB⟩
theorem lI {α : Type} {f : α → V} {o : Option α} (h : pY f o = v) (hn : v ≠ .no) : ∃ a, o = some a ∧ f a = v := by
 cases o with
 | none => exact absurd h.symm hn
 | some a => exact ⟨a, rfl, h⟩
theorem Ab {op : BinOp} {k k' : IntKind} {a b : Int} {t : Nat} (h : sF op k k' a b = v) (hn : v ≠ .no) : ∃ x, Rv θ v x ∧ ∀ w, (binOp op t (.int k a) (.int k' b)).run P w = .ok x w := by
 obtain ⟨h', hk⟩ := kB h hn
 clear h
 cases op with
 | shl =>
  obtain ⟨z, hz, rfl⟩ := lI (show pY (V.i k) (BM k a b) = v from h') hn
  rw [zF] at hz
  refine ⟨.int k z, rfl, fun w => ?_⟩
  unfold wH at hz
  split at hz
  ·cases hz
  ·rename_i hb; obtain rfl := oI hz; simp [binOp, Op.shift, hb]
 | shr =>
  obtain ⟨z, hz, rfl⟩ := lI (show pY (V.i k) (BL k a b) = v from h') hn
  rw [zE] at hz
  refine ⟨.int k z, rfl, fun w => ?_⟩
  unfold qS at hz
  split at hz
  ·cases hz
  ·rename_i hb; obtain rfl := oI hz; simp [binOp, Op.shift, hb]
 | quo =>
  obtain rfl := hk.resolve_left nofun
  obtain ⟨z, hz, rfl⟩ := lI (show pY (V.i k) (BU k a b) = v from h') hn
  rw [zO] at hz
  refine ⟨.int k z, rfl, fun w => ?_⟩
  unfold wU at hz
  split at hz
  ·cases hz
  ·rename_i hb; obtain rfl := oI hz; simp [binOp, Op.intDiv, hb]
 | rem =>
  obtain rfl := hk.resolve_left nofun
  obtain ⟨z, hz, rfl⟩ := lI (show pY (V.i k) (BR a b) = v from h') hn
  rw [zL] at hz
  refine ⟨.int k z, rfl, fun w => ?_⟩
  unfold o3 at hz
  split at hz
  ·cases hz
  ·rename_i hb; obtain rfl := oI hz; simp [binOp, Op.intDiv, hb]
 | add => obtain rfl := hk.resolve_left nofun; have h : V.i k (CL k a b) = v := h'; subst h; exact ⟨.int k (k.wrap (a + b)), by rw [AB]; rfl, fun w => by simp [binOp, Op.intArith]⟩
 | sub => obtain rfl := hk.resolve_left nofun; have h : V.i k (BI k a b) = v := h'; subst h; exact ⟨.int k (k.wrap (a - b)), by rw [zC]; rfl, fun w => by simp [binOp, Op.intArith]⟩
 | mul => obtain rfl := hk.resolve_left nofun; have h : V.i k (BZ k a b) = v := h'; subst h; exact ⟨.int k (k.wrap (a * b)), by rw [zY]; rfl, fun w => by simp [binOp, Op.intArith]⟩
 | and => obtain rfl := hk.resolve_left nofun; have h : V.i k (CK k a b) = v := h'; subst h; exact ⟨.int k (eu k a b), by rw [AA]; rfl, fun w => by simp [binOp, Op.intBits, eu]⟩
 | or => obtain rfl := hk.resolve_left nofun; have h : V.i k (EZ k a b) = v := h'; subst h; exact ⟨.int k (zx k a b), by rw [BW]; rfl, fun w => by simp [binOp, Op.intBits, zx]⟩
 | xor => obtain rfl := hk.resolve_left nofun; have h : V.i k (xx k a b) = v := h'; subst h; exact ⟨.int k (um k a b), by rw [vw]; rfl, fun w => by simp [binOp, Op.intBits, um]⟩
 | andNot => obtain rfl := hk.resolve_left nofun; have h : V.i k (nr k a b) = v := h'; subst h; exact ⟨.int k (nr k a b), rfl, fun w => by simp [binOp, Op.intBits, nr]⟩
 | eql => obtain rfl := hk.resolve_left nofun; have h : V.b (Bh a b) = v := h'; subst h; exact ⟨.bool (a == b), by rw [qw]; rfl, fun w => by simp [binOp, Op.intCmp]⟩
 | neq => obtain rfl := hk.resolve_left nofun; have h : V.b (!(Bh a b)) = v := h'; subst h; exact ⟨.bool (a != b), by rw [qw]; rfl, fun w => by simp [binOp, Op.intCmp]⟩
 | lss => obtain rfl := hk.resolve_left nofun; have h : V.b (yG a b) = v := h'; subst h; exact ⟨.bool (decide (a < b)), by rw [sw]; rfl, fun w => by simp [binOp, Op.intCmp]⟩
 | leq => obtain rfl := hk.resolve_left nofun; have h : V.b (Dp a b) = v := h'; subst h; exact ⟨.bool (decide (a ≤ b)), by rw [yL]; rfl, fun w => by simp [binOp, Op.intCmp]⟩
 | gtr => obtain rfl := hk.resolve_left nofun; have h : V.b (yG b a) = v := h'; subst h; exact ⟨.bool (decide (a > b)), by rw [sw]; rfl, fun w => by simp [binOp, Op.intCmp]⟩
 | geq => obtain rfl := hk.resolve_left nofun; have h : V.b (Dp b a) = v := h'; subst h; exact ⟨.bool (decide (a ≥ b)), by rw [yL]; rfl, fun w => by simp [binOp, Op.intCmp]⟩
theorem zD {op : BinOp} {n a m b t : Nat} (ha : a < 256 ^ n) (hb : b < 256 ^ m) (h : uF op n a m b = v) (hn : v ≠ .no) : ∃ x, Rv θ v x ∧ ∀ w, (binOp op t (.string (cZ n a)) (.string (cZ m b))).run P w = .ok x w := by
 unfold uF at h
 split at h
 ·cases hb1 : Nat.ble (Nat.add n m) 0x100000 with
  | false => rw [hb1] at h; exact absurd h.symm hn
  | true =>
   rw [hb1] at h
   have hl := nB hb1
   have hl : n + m ≤ 0x100000 := hl
   subst h
   refine ⟨.string (cZ (n + m) (a + b * 256 ^ n)), ⟨?_, rfl⟩, fun w => ?_⟩
   ·show a + b * 256 ^ n < 256 ^ (n + m)
    have : (b + 1) * 256 ^ n ≤ 256 ^ m * 256 ^ n := Nat.mul_le_mul_right _ hb
    rw [Nat.pow_add, Nat.mul_comm (256 ^ n)]
    rw [Nat.add_mul] at this
    omega
   ·have hi : ¬ ((((cZ n a).size + (cZ m b).size : Nat) : Int) > IntKind.i64.max) := by
     rw [gI, gI]
     have : IntKind.i64.max = 9223372036854775807 := rfl
     omega
    simp only [binOp, Op.stringOp, hi, if_false, wC ha]
    rfl
 ·subst h
  exact ⟨.bool (Nat.beq n m && Nat.beq a b), rfl, fun w => by simp only [binOp, Op.stringOp, nM ha hb]; rfl⟩
 ·subst h
  exact ⟨.bool (!(Nat.beq n m && Nat.beq a b)), rfl, fun w => by simp only [binOp, Op.stringOp, nM ha hb]; rfl⟩
 ·exact absurd h.symm hn
end Ci
namespace Ci
open Go
variable {P : Program} {w0 : World} {T : Nat → Prop} {θ : Th} {s s' : St} {w : World} {e : Env} {ρ : Operand → Value} {F : Fs} {v : V}
variable {dst : Option Tmp} {ty : TypeId} {pos : String} {af : Array Edge} {g : Option (Nat × Bool)}
theorem j8 {α : Type} {x : V} {K : IntKind → Int → Option α} {r : α} (h : kS none x K = some r) : ∃ k n, x = .i k n ∧ K k n = some r := by
 unfold kS at h
 cases x <;> first | (cases h; done) | exact ⟨_, _, rfl, h⟩
theorem lD {α : Type} {x : V} {K : Bool → Option α} {r : α} (h : sV none x K = some r) : ∃ b, x = .b b ∧ K b = some r := by
 unfold sV at h
 cases x <;> first | (cases h; done) | exact ⟨_, rfl, h⟩
theorem j7 {α : Type} {x : V} {K : Nat → Nat → Option α} {r : α} (h : mG none x K = some r) : ∃ n c, x = .s n c ∧ K n c = some r := by
 unfold mG at h
 cases x <;> first | (cases h; done) | exact ⟨_, _, rfl, h⟩
theorem uq {α : Type} {x : V} {K : df → Nat → Option α} {r : α} (h : sU none x K = some r) : ∃ q o, x = .p q o ∧ K q o = some r := by
 unfold sU at h
 cases x <;> first | (cases h; done) | exact ⟨_, _, rfl, h⟩
theorem je {α : Type} {x : V} {K : List V → Option α} {r : α} (h : asAgg none x K = some r) : ∃ xs, x = .agg xs ∧ K xs = some r := by
 unfold asAgg at h
 cases x <;> first | (cases h; done) | exact ⟨_, rfl, h⟩
inductive jh : Nat → Bool → Value → Prop
 | p0 : jh 0 true (.pointer none)
 | p1 {a : Addr} : jh 0 false (.pointer (some a))
 | s0 {n m : Nat} : jh 1 true (.slice none n m)
 | s1 {a : Addr} {n m : Nat} : jh 1 false (.slice (some a) n m)
 | m0 : jh 2 true (.map none)
 | m1 {r : Nat} : jh 2 false (.map (some r))
 | f0 : jh 3 true .nilFunc
 | f1 {f : Fn} {a b : Array Value} : jh 3 false (.func f a b)
 | i0 : jh 4 true .nilIface
 | i1 {t : Nat} {v : Value} : jh 4 false (.iface t v)
theorem dN {k : Nat} {x : V} {b : Bool} {X : Value} (h : sr k x = some b) (hv : Rv θ x X) : jh k b X := by
 unfold sr at h
 split at h <;> first | (cases h; done) | (obtain rfl := oI h)
 ·obtain ⟨rfl, _⟩ := hv; exact .p0
 ·obtain ⟨_, _, rfl⟩ := hv; exact .p1
 ·obtain ⟨rfl, _⟩ := hv; exact .s0
 ·obtain ⟨_, _, rfl, _⟩ := hv; exact .s1
 ·obtain ⟨_, _, rfl⟩ := hv; exact .s1
 ·obtain ⟨rfl, _⟩ := hv; exact .m0
 ·obtain ⟨_, _, rfl⟩ := hv; exact .m1
 ·obtain ⟨rfl, _⟩ := hv; exact .f0
 ·obtain ⟨_, _, rfl, _⟩ := hv; exact .f1
 ·obtain ⟨rfl, _⟩ := hv; exact .i0
 ·obtain ⟨_, rfl, _⟩ := hv; exact .i1
def By : Nat → TypeDesc → Prop
 | 0, D => ∃ e, D = .pointer e
 | 1, D => ∃ e, D = .slice e
 | 2, D => ∃ i e, D = .map i e
 | 3, D => ∃ p r c, D = .func p r c
 | _, D => ∃ ms, D = .interface ms
theorem lK {X Y : Value} {k t d : Nat} {a b : Bool} {D : TypeDesc} (hu : P.underlying t = some D) (hD : By k D) (hx : jh k a X) (hy : jh k b Y) (hab : a = true ∨ b = true) : (Op.equalIn (d + 1) t X Y).run P w = .ok (a && b) w := by
 cases hx <;> cases hy <;> first | (simp at hab; done) | skip
 all_goals first
  | (obtain ⟨e, rfl⟩ := hD; simp [Op.equalIn, fo hu]; done)
  | (obtain ⟨i, e, rfl⟩ := hD; simp [Op.equalIn, fo hu]; done)
  | (obtain ⟨p, r, c, rfl⟩ := hD; simp [Op.equalIn, fo hu]; done)
theorem u7 {n : Nat} {q : nF} {y : V} {b : Bool} (h : mH n q .no y = some b) : False := by
 cases n with
 | zero => cases h
 | succ n =>
  cases q with
  | nil k g =>
   have e : sr k .no = none := by unfold sr; split <;> first | rfl | (rename_i hh; cases hh)
   simp [mH, e] at h
  | _ => simp [mH, sV, kS, mG, asAgg] at h
theorem sJ {n : Nat} {q : nF} {x : V} {b : Bool} (h : mH n q x .no = some b) : False := by
 cases n with
 | zero => cases h
 | succ n =>
  cases q with
  | no => simp [mH] at h
  | bool => obtain ⟨_, rfl, h⟩ := lD (show sV none x _ = some b from h); cases h
  | int => obtain ⟨_, _, rfl, h⟩ := j8 (show kS none x _ = some b from h); cases h
  | str => obtain ⟨_, _, rfl, h⟩ := j7 (show mG none x _ = some b from h); cases h
  | struct fs => obtain ⟨_, rfl, h⟩ := je (show asAgg none x _ = some b from h); cases h
  | nil k g =>
   have e : sr k .no = none := by unfold sr; split <;> first | rfl | (rename_i hh; cases hh)
   simp only [mH, e] at h
   split at h <;> simp_all
theorem xt {a : Option Bool} {b : Unit → Option Bool} {r : Bool} (h : Az a b = some r) : (a = some false ∧ r = false) ∨ (a = some true ∧ b () = some r) := by
 unfold Az at h
 split at h
 ·exact .inr ⟨rfl, h⟩
 ·cases h; exact .inl ⟨rfl, rfl⟩
 ·cases h
theorem nW {t : Nat} {inf : TypeInfo} {cs : List V} {ys : List Value} {off : Nat} {u : V} (hu : ∃ d, P.underlying t = some d) (hi : P.info? t = some inf) (hv : fy θ cs ys) (ha : cs.all cz = true) (h : jq cs off inf.size (fN P t) = u) (hn : u ≠ .no) : ∃ y, Rv θ u y ∧ ∀ w, (part t ys.toArray off).run P w = .ok y w := by
 unfold jq at h
 cases ho : fN P t with
 | true => rw [ho] at h; exact tI ho hv h hn
 | false =>
  rw [ho] at h
  simp only [cdF] at h
  cases hb : fO (pA inf.size (gF off cs)) inf.size with
  | false => rw [hb] at h; exact absurd h.symm hn
  | true =>
   rw [hb] at h
   subst h
   rw [fj, kY] at hb ⊢
   have hl := gM hb
   rw [List.length_take] at hl
   have hagg : jf P t = true := by
    obtain ⟨d, hd⟩ := hu
    unfold fN at ho
    unfold jf
    rw [hd] at ho ⊢
    cases d <;> first | rfl | cases ho
   exact tJ hagg hi rfl hv ha (by omega)
theorem wj {d t : Nat} (h : nH P d t ≠ .no) : ∃ D, P.underlying t = some D := by
 cases d with
 | zero => exact absurd rfl h
 | succ d =>
  unfold nH at h
  cases hu : P.underlying t with
  | none => rw [hu] at h; exact absurd rfl h
  | some D => exact ⟨D, rfl⟩
theorem yV {n : Nat} {q : nF} {x y : V} {b : Bool} (h : mH n q x y = some b) : q ≠ .no := fun e => by
 subst e
 cases n <;> simp [mH] at h
theorem wa : ∀ (dd n t d : Nat) (x y : V) (X Y : Value) (b : Bool), dd ≤ d → mH n (nH P dd t) x y = some b → Rv θ x X → Rv θ y Y → (Op.equalIn d t X Y).run P w = .ok b w
 | 0, n, t, d, x, y, X, Y, b, _, h, _, _ => by cases n <;> simp [nH, mH] at h
 | dd + 1, n, t, d, x, y, X, Y, b, hd, h, hX, hY => by
  obtain ⟨d, rfl⟩ : ∃ d', d = d' + 1 := ⟨d - 1, by omega⟩
  have hq := yV h
  obtain ⟨D, hu⟩ := wj hq
  cases n with
  | zero => cases h
  | succ n =>
   have nils : ∀ k, By k D → nH P (dd + 1) t = .nil k true → (Op.equalIn (d + 1) t X Y).run P w = .ok b w := fun k hD he => by
    rw [he] at h
    simp only [mH] at h
    split at h
    ·rename_i h1 h2; cases h; exact lK hu hD (dN h1 hX) (dN h2 hY) (.inl rfl)
    ·rename_i h1 h2; cases h; exact lK hu hD (dN h1 hX) (dN h2 hY) (.inl rfl)
    ·rename_i h1 h2; cases h; exact lK hu hD (dN h1 hX) (dN h2 hY) (.inr rfl)
    ·rename_i h1 h2
     cases hk : Nat.beq k 0 with
     | false => rw [hk] at h; cases h
     | true =>
      rw [hk] at h
      obtain rfl := nE hk
      have h0 : xY x y = some b := h
      clear h h1 h2
      obtain ⟨q, o, rfl, h3⟩ := uq h0
      clear h0
      obtain ⟨q', o', rfl, h4⟩ := uq h3
      clear h3
      cases hqq : q.beq q' with
      | false => rw [hqq] at h4; cases h4
      | true =>
       rw [hqq] at h4
       obtain rfl := df.beq_eq hqq
       obtain rfl := oI h4
       obtain ⟨pl, hp, rfl⟩ := hX
       obtain ⟨pl', hp', rfl⟩ := hY
       rw [hp] at hp'
       obtain rfl := oI hp'
       obtain ⟨el, rfl⟩ := hD
       have hel : ∃ i, P.info? el = some i ∧ i.size ≠ 0 := by
        unfold nH at he
        rw [hu] at he
        simp only at he
        split at he
        ·rename_i m hm
         obtain ⟨i, hi, hs⟩ := Option.map_eq_some_iff.1 hm
         exact ⟨i, hi, by omega⟩
        ·cases he
       obtain ⟨i, hi, hs⟩ := hel
       have hbe : (Nat.beq o o') = ((⟨pl.b, pl.a + o, none⟩ : Addr) == ⟨pl.b, pl.a + o', none⟩) := by
        rw [Bool.eq_iff_iff, Nat.beq_eq, beq_iff_eq, Addr.mk.injEq]
        exact ⟨fun h => ⟨rfl, by rw [h], rfl⟩, fun h => by have := h.2.1; omega⟩
       simp only [Op.equalIn]
       rw [ao (fo hu)]
       simp only
       rw [ao (bH hi)]
       rw [if_pos hs, hbe]
       simp [sameAddr]
    ·cases h
   cases D with
   | bool =>
    have he : nH P (dd + 1) t = .bool := by simp [nH, hu]
    rw [he] at h
    obtain ⟨a, rfl, h⟩ := lD (show sV none x _ = some b from h)
    obtain ⟨c, rfl, h⟩ := lD h
    cases h; cases hX; cases hY
    simp [Op.equalIn, fo hu]
   | int k =>
    have he : nH P (dd + 1) t = .int := by simp [nH, hu]
    rw [he] at h
    obtain ⟨k1, a, rfl, h3⟩ := j8 (show kS none x _ = some b from h)
    clear h
    obtain ⟨k2, c, rfl, h4⟩ := j8 h3
    clear h3
    cases hk : B4 k1 k2 with
    | false => rw [hk] at h4; cases h4
    | true =>
     rw [hk] at h4
     obtain rfl := sB hk
     cases h4; cases hX; cases hY
     rw [qw]
     simp [Op.equalIn, fo hu]
     rfl
   | string =>
    have he : nH P (dd + 1) t = .str := by simp [nH, hu]
    rw [he] at h
    obtain ⟨n1, a, rfl, h⟩ := j7 (show mG none x _ = some b from h)
    obtain ⟨n2, c, rfl, h⟩ := j7 h
    cases h
    obtain ⟨ha, rfl⟩ := hX
    obtain ⟨hb, rfl⟩ := hY
    rw [← mm ha hb]
    simp [Op.equalIn, fo hu]
   | pointer el => exact nils 0 ⟨_, rfl⟩ (by
     unfold nH at hq ⊢
     rw [hu] at hq ⊢
     simp only at hq ⊢
     split at hq
     ·rfl
     ·exact absurd rfl hq)
   | slice el => exact nils 1 ⟨_, rfl⟩ (by simp [nH, hu])
   | map k el => exact nils 2 ⟨_, _, rfl⟩ (by simp [nH, hu])
   | func p r c => exact nils 3 ⟨_, _, _, rfl⟩ (by simp [nH, hu])
   | interface ms => exact nils 4 ⟨_, rfl⟩ (by simp [nH, hu])
   | struct fs =>
    unfold nH at h
    rw [hu] at h
    simp only at h
    cases hst : P.stoodInHeld t with
    | true => rw [hst] at h; simp [mH] at h
    | false =>
     rw [hst] at h
     simp only [cdF] at h
     cases hl : EF P (nH P dd) fs.toList with
     | none => rw [hl] at h; simp [mH] at h
     | some l =>
      rw [hl] at h
      obtain ⟨xs, rfl, h3⟩ := je (show asAgg none x _ = some b from h)
      clear h
      obtain ⟨ys, rfl, h4⟩ := je h3
      clear h3
      obtain ⟨Xs, rfl, hXs, hXc⟩ := hX
      obtain ⟨Ys, rfl, hYs, hYc⟩ := hY
      have hf : P.fieldsOf t = fs := by simp [Program.fieldsOf, hu]
      rw [run_equalIn_struct (P := P) w d t Xs.toArray Ys.toArray (by rw [hf]; exact hu) hst, hf]
      clear hu hf hst hq
      generalize fs.toList = fl at hl
      have hd : dd ≤ d := by omega
      have h : mH.B8 n l xs ys = some b := h4
      clear h4 nils
      induction fl generalizing l n b with
      | nil =>
       obtain rfl := oI hl
       cases n with
       | zero => cases h
       | succ n => obtain rfl := oI h; simp [Op.eqFields]
      | cons f fl ih =>
       simp only [EF] at hl
       split at hl
       ·rename_i i hi
        cases hn : (f.name == "_") with
        | true => rw [hn] at hl; cases hl
        | false =>
         rw [hn] at hl
         simp only [cdF] at hl
         split at hl
         ·rename_i l' hl'
          obtain rfl := oI hl
          unfold Op.eqFields
          rw [if_pos (by simpa using hn)]
          cases n with
          | zero => cases h
          | succ n =>
           have step : ∀ r, mH n (nH P dd f.type) (jq xs f.offset i.size (fN P f.type)) (jq ys f.offset i.size (fN P f.type)) = some r → ∃ X1 Y1, (part f.type Xs.toArray f.offset).run P w = .ok X1 w ∧ (part f.type Ys.toArray f.offset).run P w = .ok Y1 w ∧ (Op.equalIn d f.type X1 Y1).run P w = .ok r w := fun r hr => by
            have hu' := wj (yV hr)
            obtain ⟨X1, hX1, hr1⟩ := nW hu' hi hXs hXc rfl fun e => u7 (e ▸ hr)
            obtain ⟨Y1, hY1, hr2⟩ := nW hu' hi hYs hYc rfl fun e => sJ (e ▸ hr)
            exact ⟨X1, Y1, hr1 w, hr2 w, wa dd n f.type d _ _ X1 Y1 r hd hr hX1 hY1⟩
           rcases xt (show Az (mH n (nH P dd f.type) (jq xs f.offset i.size (fN P f.type)) (jq ys f.offset i.size (fN P f.type))) _ = some b from h) with ⟨hr, rfl⟩ | ⟨hr, h⟩
           ·obtain ⟨X1, Y1, r1, r2, r3⟩ := step _ hr
            rw [ao r1, ao r2, ao r3]
            simp
           ·obtain ⟨X1, Y1, r1, r2, r3⟩ := step _ hr
            rw [ao r1, ao r2, ao r3]
            simpa using ih b n l' hl' h
         ·cases hl
       ·cases hl
   | _ => exact absurd (by simp [nH, hu]) hq
theorem yU {n : Nat} {q : nF} {x y : V} {X Y : Value} {b : Bool} (h : mH n q x y = some b) (hX : Rv θ x X) (hY : Rv θ y Y) (hi : ∀ k a, x ≠ .i k a) (hs : ∀ m a, x ≠ .s m a) :
  (∃ a c, X = .bool a ∧ Y = .bool c) ∨ (∃ k a c g, q = .nil k g ∧ jh k a X ∧ jh k c Y) ∨ ∃ xs ys fs, X = .agg xs ∧ Y = .agg ys ∧ q = .struct fs := by
 cases n with
 | zero => cases h
 | succ n =>
  cases q with
  | no => simp [mH] at h
  | bool =>
   obtain ⟨a, rfl, h3⟩ := lD (show sV none x _ = some b from h)
   obtain ⟨c, rfl, h4⟩ := lD h3
   exact .inl ⟨a, c, hX, hY⟩
  | int => obtain ⟨k, a, rfl, _⟩ := j8 (show kS none x _ = some b from h); exact absurd rfl (hi _ _)
  | str => obtain ⟨k, a, rfl, _⟩ := j7 (show mG none x _ = some b from h); exact absurd rfl (hs _ _)
  | nil k g =>
   simp only [mH] at h
   split at h
   ·rename_i h1 h2; exact .inr (.inl ⟨_, _, _, _, rfl, dN h1 hX, dN h2 hY⟩)
   ·rename_i h1 h2; exact .inr (.inl ⟨_, _, _, _, rfl, dN h1 hX, dN h2 hY⟩)
   ·rename_i h1 h2; exact .inr (.inl ⟨_, _, _, _, rfl, dN h1 hX, dN h2 hY⟩)
   ·rename_i h1 h2; exact .inr (.inl ⟨_, _, _, _, rfl, dN h1 hX, dN h2 hY⟩)
   ·cases h
  | struct fs =>
   obtain ⟨xs, rfl, h3⟩ := je (show asAgg none x _ = some b from h)
   obtain ⟨ys, rfl, h4⟩ := je h3
   obtain ⟨Xs, rfl, _⟩ := hX
   obtain ⟨Ys, rfl, _⟩ := hY
   exact .inr (.inr ⟨_, _, _, rfl, rfl, rfl⟩)
theorem mW {op : BinOp} {t : Nat} {a b : Value} (X Y : Operand) (h1 : ¬ (a = .nilIface ∧ b = .nilIface)) (h2 : ∀ c d, ¬ (a = .agg c ∧ b = .agg d)) (w : World) : (eqGuard op t X Y a b).run P w = .ok () w := by
 unfold eqGuard
 cases op <;> first | rfl | (cases a <;> cases b <;> first | rfl | exact absurd ⟨rfl, rfl⟩ h1 | exact absurd ⟨rfl, rfl⟩ (h2 _ _))
theorem zb {d t : Nat} {g : Bool} (h : nH P (d + 1) t = .nil 4 g) : ∃ ms, P.underlying t = some (.interface ms) := by
 unfold nH at h
 cases hu : P.underlying t with
 | none => rw [hu] at h; cases h
 | some D =>
  rw [hu] at h
  cases D with
  | interface ms => exact ⟨ms, rfl⟩
  | struct fs =>
   simp only at h
   cases hst : P.stoodInHeld t with
   | true => rw [hst] at h; cases h
   | false =>
    rw [hst] at h
    simp only [cdF] at h
    split at h <;> cases h
  | pointer e => simp only at h; split at h <;> simp at h
  | _ => simp at h
theorem rr {op : BinOp} {t : Nat} {x y : Operand} {w : World} (h : (v7 x || v7 y) = true ∨ (Op.eqGuardIn Op.maxDepth t .nilIface .nilIface).run P w = .ok false w) : (eqGuard op t x y .nilIface .nilIface).run P w = .ok () w := by
 have e : ∀ op, op = .eql ∨ op = .neq → eqGuard op t x y .nilIface .nilIface = (if (v7 x || v7 y) = true then pure () else do
   if ← Op.eqGuardIn Op.maxDepth t .nilIface .nilIface then unsupported (.noEntry "binop/eql: two nil values of an interface type with methods, neither of them the literal nil")) := fun op ho => by
  rcases ho with rfl | rfl <;> cases x <;> cases y <;> rfl
 have fin : ((if (v7 x || v7 y) = true then pure () else do
   if ← Op.eqGuardIn Op.maxDepth t .nilIface .nilIface then unsupported (.noEntry "binop/eql: two nil values of an interface type with methods, neither of them the literal nil")) : Sem Unit).run P w = .ok () w := by
  rcases h with h | h
  ·rw [if_pos h]; rfl
  ·split
   ·rfl
   ·rw [ao h]; rfl
 cases op with
 | eql => rw [e _ (.inl rfl)]; exact fin
 | neq => rw [e _ (.inr rfl)]; exact fin
 | _ => rfl
theorem wb {t : Nat} {x y : Operand} {u v : V} {b : Bool} (h : mH 200 (qY P t x y) u v = some b) (hX : Rv θ u (ρ x)) (hY : Rv θ v (ρ y)) (hi : ∀ k a, u ≠ .i k a) (hs : ∀ m a, u ≠ .s m a) :
  (∀ op w, (eqGuard op t x y (ρ x) (ρ y)).run P w = .ok () w) ∧ (∀ w, (Op.equal t (ρ x) (ρ y)).run P w = .ok b w) ∧ binOp .eql t (ρ x) (ρ y) = (do pure (.bool (← Op.equal t (ρ x) (ρ y)))) ∧ binOp .neq t (ρ x) (ρ y) = (do pure (.bool (!(← Op.equal t (ρ x) (ρ y))))) := by
 have hsh := yU h hX hY hi hs
 have hbin : binOp .eql t (ρ x) (ρ y) = (do pure (.bool (← Op.equal t (ρ x) (ρ y)))) ∧ binOp .neq t (ρ x) (ρ y) = (do pure (.bool (!(← Op.equal t (ρ x) (ρ y))))) := by
  rcases hsh with ⟨a, c, e1, e2⟩ | ⟨k, a, c, g, _, e1, e2⟩ | ⟨xs, ys, fs, e1, e2, _⟩
  ·rw [e1, e2]; exact ⟨rfl, rfl⟩
  ·generalize ρ x = X at e1; generalize ρ y = Y at e2
   cases e1 <;> cases e2 <;> exact ⟨rfl, rfl⟩
  ·rw [e1, e2]; exact ⟨rfl, rfl⟩
 refine ⟨?_, ?_, hbin⟩
 ·intro op w
  by_cases hn : ρ x = .nilIface ∧ ρ y = .nilIface
  ·rw [hn.1, hn.2]
   have hg : (v7 x || v7 y) = true ∨ (P.eqGuardType P.depth t = false ∧ ∃ ms, P.underlying t = some (.interface ms)) := by
    cases hg : P.eqGuardType P.depth t with
    | true =>
     refine .inl ?_
     unfold qY at h
     rw [hg] at h
     simp only [cdT] at h
     split at h
     ·simp only [mH] at h
      have hu : ∀ {z : V}, Rv θ z .nilIface → ∀ c, sr 4 z = some c → c = true := fun {z} hz c hc => by
       have := dN hc hz
       cases this; rfl
      split at h
      ·cases hk : (v7 x || v7 y) with
       | true => rfl
       | false => rw [hk] at h; cases h
      ·rename_i h1 h2; have := hu (hn.2 ▸ hY) _ h2; cases this
      ·rename_i h1 h2; have := hu (hn.1 ▸ hX) _ h1; cases this
      ·rename_i h1 h2; have := hu (hn.1 ▸ hX) _ h1; cases this
      ·cases h
     ·simp [mH] at h
    | false =>
     refine .inr ⟨rfl, ?_⟩
     have e : qY P t x y = nH P 9 t := by unfold qY; rw [hg]; rfl
     rw [e] at h
     have hq := yV h
     rcases hsh with ⟨a, c, e1, e2⟩ | ⟨k, a, c, g, e0, e1, e2⟩ | ⟨xs, ys, fs, e1, e2, _⟩
     ·rw [hn.1] at e1; cases e1
     ·rw [hn.1] at e1
      cases e1
      rw [e] at e0
      exact zb e0
     ·rw [hn.1] at e1; cases e1
   rcases hg with hg | ⟨hg, ms, hu⟩
   ·exact rr (.inl hg)
   ·have hd : P.depth = P.depth - 1 + 1 := by unfold Program.depth; omega
    have hm : (!ms.isEmpty) = false := by
     rw [hd] at hg
     simpa [Program.eqGuardType, hu] using hg
    refine rr (.inr ?_)
    show (Op.eqGuardIn (9999 + 1) t .nilIface .nilIface).run P w = _
    unfold Op.eqGuardIn
    rw [ao (fo hu)]
    show Result.ok (!ms.isEmpty) w = _
    rw [hm]
  ·rcases hsh with ⟨a, c, e1, e2⟩ | ⟨k, a, c, g, _, e1, e2⟩ | ⟨xs, ys, fs, e1, e2, e3⟩
   ·exact mW x y hn (fun c d h => by rw [e1] at h; cases h.1) w
   ·refine mW x y hn (fun c d h => ?_) w
    rw [h.1] at e1; cases e1
   ·rw [e1, e2]
    refine run_eqGuard_agg (P := P) w op t x y xs ys ?_
    unfold qY at e3
    cases hg : P.eqGuardType P.depth t with
    | false => rfl
    | true =>
     rw [hg] at e3
     simp only [cdT] at e3
     split at e3 <;> cases e3
 ·intro w
  show (Op.equalIn (9999 + 1) t (ρ x) (ρ y)).run P w = _
  cases hg : P.eqGuardType P.depth t with
  | false =>
   have e : qY P t x y = nH P 9 t := by unfold qY; rw [hg]; rfl
   rw [e] at h
   exact wa 9 200 t _ u v _ _ b (by omega) h hX hY
  | true =>
   unfold qY at h
   rw [hg] at h
   simp only [cdT] at h
   split at h
   ·rename_i ms hu
    simp only [mH] at h
    split at h
    ·rename_i h1 h2
     cases hk : (v7 x || v7 y) with
     | true => rw [hk] at h; cases h; exact lK (k := 4) hu ⟨_, rfl⟩ (dN h1 hX) (dN h2 hY) (.inl rfl)
     | false => rw [hk] at h; cases h
    ·rename_i h1 h2; cases h; exact lK (k := 4) hu ⟨_, rfl⟩ (dN h1 hX) (dN h2 hY) (.inl rfl)
    ·rename_i h1 h2; cases h; exact lK (k := 4) hu ⟨_, rfl⟩ (dN h1 hX) (dN h2 hY) (.inr rfl)
    ·cases h
    ·cases h
   ·simp [mH] at h
theorem D4 {op : BinOp} {x y : Operand} {t t' : Nat} (h : Bb op (qY P t x y) (cX x) (cX y) F e s = .ok v s') (hx : RX θ e ρ x) (hy : RX θ e ρ y) (hr : Rel w0 T θ s w) : Ends P w0 T θ s v s' ((execOp ρ ⟨dst, .binOp op t x y t', ty, pos, af, g⟩).run P w) := by
 obtain ⟨h1, rfl, hn⟩ := jA h
 clear h
 have fin : ∀ X, Rv θ v X → (eqGuard op t x y (ρ x) (ρ y)).run P w = .ok () w → (binOp op t (ρ x) (ρ y)).run P w = .ok X w → Ends P w0 T θ s v s ((execOp ρ ⟨dst, .binOp op t x y t', ty, pos, af, g⟩).run P w) := fun X hX hG hB => by
  refine .val hr hX ?_
  simp only [execOp]
  rw [ao (a := X) (w' := w)]
  ·rfl
  ·rw [ao hG]; exact hB
 unfold El at h1
 split at h1
 ·rename_i k a hex
  have hX : ρ x = .int k a := hx _ hex nofun
  unfold kS at h1
  split at h1
  ·rename_i k' c hey
   have hY : ρ y = .int k' c := hy _ hey nofun
   obtain ⟨X, hX1, hrun⟩ := Ab (P := P) (θ := θ) (t := t) h1 hn
   rw [hX, hY] at fin
   exact fin X hX1 (mW x y (by simp) (by simp) w) (hrun w)
  ·exact absurd h1.symm hn
 ·rename_i n a hex
  obtain ⟨ha, hX⟩ := hx _ hex nofun
  unfold mG at h1
  split at h1
  ·rename_i m c hey
   obtain ⟨hb, hY⟩ := hy _ hey nofun
   obtain ⟨X, hX1, hrun⟩ := zD (P := P) (θ := θ) (t := t) ha hb h1 hn
   rw [hX, hY] at fin
   exact fin X hX1 (mW x y (by simp) (by simp) w) (hrun w)
  ·exact absurd h1.symm hn
 ·rename_i hi hs
  unfold Bi at h1
  split at h1
  ·obtain ⟨b, hb, rfl⟩ := lI h1 hn
   obtain ⟨a1, a2, a3, a4⟩ := wb (θ := θ) (ρ := ρ) hb (hx _ rfl fun e => u7 (e ▸ hb)) (hy _ rfl fun e => sJ (e ▸ hb)) (fun k a e => hi k a e) (fun m a e => hs m a e)
   refine fin (.bool b) rfl (a1 _ w) ?_
   rw [a3, ao (a2 w)]; rfl
  ·obtain ⟨b, hb, rfl⟩ := lI h1 hn
   obtain ⟨a1, a2, a3, a4⟩ := wb (θ := θ) (ρ := ρ) hb (hx _ rfl fun e => u7 (e ▸ hb)) (hy _ rfl fun e => sJ (e ▸ hb)) (fun k a e => hi k a e) (fun m a e => hs m a e)
   refine fin (.bool (!b)) rfl (a1 _ w) ?_
   rw [a4, ao (a2 w)]; rfl
  ·exact absurd h1.symm hn
end Ci
namespace Ci
open Go
variable {P : Program} {w0 : World} {T : Nat → Prop} {θ : Th} {s s' : St} {w : World} {e : Env} {ρ : Operand → Value} {F : Fs} {v : V}
variable {dst : Option Tmp} {ty : TypeId} {pos : String} {af : Array Edge} {g : Option (Nat × Bool)}
theorem Cj {x i : Operand} {t el n : Nat} {inf : TypeInfo} (h : pG (cX x) (cX i) n F e s = .ok v s') (hx : RX θ e ρ x) (hy : RX θ e ρ i) (hr : Rel w0 T θ s w) (hu : P.underlying t = some (.slice el)) (hi : P.info? el = some inf) (hs : inf.size = n) : Ends P w0 T θ s v s' ((execOp ρ ⟨dst, .indexAddr t x i, ty, pos, af, g⟩).run P w) := by
 unfold pG at h
 split at h
 ·rename_i r off len cap known hex
  obtain ⟨k, j, hj, hlt, h⟩ := sC h
  cases h
  obtain ⟨pl, hp, hX, _⟩ := hx _ hex nofun
  have hI : ρ i = .int k (.ofNat j) := hy _ hj nofun
  refine .val (x := .pointer (some ⟨pl.b, pl.a + (off + j * n), none⟩)) hr ⟨pl, hp, rfl⟩ ?_
  have h1 : (0 ≤ (Int.ofNat j) ∧ (Int.ofNat j) < (len : Int)) := ⟨by simp, by simpa using hlt⟩
  have h2 : (Instr.indexAt t (ρ x) (ρ i)).run P w = .ok (.pointer (some ⟨pl.b, pl.a + (off + j * n), none⟩)) w := by
   rw [hX, hI]
   unfold Instr.indexAt
   simp only [asIntOf, Sem.run_bind, Sem.run_pure, Result.andThen_ok, fo hu, h1, and_self, if_true, bH hi, hs, dy]
   simp [Nat.add_assoc, h1, bH hi, hs, dy, hlt]
  simp only [execOp]
  rw [ao h2]; rfl
 ·cases h
theorem Ck {x i : Operand} {t el n len : Nat} {inf : TypeInfo} (h : xQ (cX x) (cX i) len n F e s = .ok v s') (hx : RX θ e ρ x) (hy : RX θ e ρ i) (hr : Rel w0 T θ s w) (hu : P.underlying t = some (.array len el)) (hi : P.info? el = some inf) (hs : inf.size = n) : Ends P w0 T θ s v s' ((execOp ρ ⟨dst, .indexAddr t x i, ty, pos, af, g⟩).run P w) := by
 obtain ⟨r, off, hex, h⟩ := jL h
 obtain ⟨k, j, hj, hlt, h⟩ := sC h
 cases h
 obtain ⟨pl, hp, hX⟩ := hx _ hex nofun
 have hI : ρ i = .int k (.ofNat j) := hy _ hj nofun
 refine .val (x := .pointer (some ⟨pl.b, pl.a + (off + j * n), none⟩)) hr ⟨pl, hp, rfl⟩ ?_
 have h1 : (0 ≤ (Int.ofNat j) ∧ (Int.ofNat j) < (len : Int)) := ⟨by simp, by simpa using hlt⟩
 have h2 : (Instr.indexAt t (ρ x) (ρ i)).run P w = .ok (.pointer (some ⟨pl.b, pl.a + (off + j * n), none⟩)) w := by
  rw [hX, hI]
  unfold Instr.indexAt
  simp [asIntOf, fo hu, h1, Instr.sureAddr, bH hi, hs, dy, Nat.add_assoc, hlt]
 simp only [execOp]
 rw [ao h2]; rfl
theorem Cg {x i : Operand} {t : Nat} (h : xO (cX x) (cX i) F e s = .ok v s') (hx : RX θ e ρ x) (hy : RX θ e ρ i) (hr : Rel w0 T θ s w) (hu : P.underlying t = some .string) : Ends P w0 T θ s v s' ((execOp ρ ⟨dst, .index t x i, ty, pos, af, g⟩).run P w) := by
 obtain ⟨n, c, hex, h⟩ := qI h
 obtain ⟨k, j, hj, hlt, h⟩ := sC h
 cases h
 obtain ⟨hc, hX⟩ := hx _ hex nofun
 have hI : ρ i = .int k (.ofNat j) := hy _ hj nofun
 have hb : (cZ n c)[j]? = some (UInt8.ofNat (c / 256 ^ j % 256)) := by
  have h1 : j < (cZ n c).size := by rw [gI]; exact hlt
  have h2 := oT (x := c) hlt
  rw [← dt, List.getElem?_eq_getElem (by rw [Array.length_toList]; exact h1)] at h2
  rw [getElem?_pos (cZ n c) j h1]
  exact h2
 refine .val (x := .int .u8 ((c / 256 ^ j % 256 : Nat) : Int)) hr rfl ?_
 have h2 : (Instr.index t (ρ x) (ρ i)).run P w = .ok (.int .u8 ((c / 256 ^ j % 256 : Nat) : Int)) w := by
  rw [hX, hI]
  unfold Instr.index
  simp [asIntOf, fo hu, hb]
 simp only [execOp]
 rw [ao h2]; rfl
theorem Ch {x i : Operand} {t el len : Nat} {inf : TypeInfo} (h : xP (cX x) (cX i) len inf.size (fN P el) F e s = .ok v s') (hx : RX θ e ρ x) (hy : RX θ e ρ i) (hr : Rel w0 T θ s w) (hu : P.underlying t = some (.array len el)) (hi : P.info? el = some inf) (hd : ∃ d, P.underlying el = some d) : Ends P w0 T θ s v s' ((execOp ρ ⟨dst, .index t x i, ty, pos, af, g⟩).run P w) := by
 obtain ⟨xs, hex, h⟩ := qJ h
 obtain ⟨k, j, hj, hlt, h⟩ := sC h
 obtain ⟨h1, rfl, hn⟩ := jA h
 obtain ⟨ys, hX, hv, hc⟩ := hx _ hex nofun
 have hI : ρ i = .int k (.ofNat j) := hy _ hj nofun
 obtain ⟨y, hy', hrun⟩ := nW hd hi hv hc h1 hn
 refine .val hr hy' ?_
 have h2 : (Instr.index t (ρ x) (ρ i)).run P w = .ok y w := by
  rw [hX, hI]
  unfold Instr.index
  have h3 : (part el ys.toArray (j * inf.size)).run P w = .ok y w := hrun w
  simp [asIntOf, fo hu, hlt, bH hi, h3]
 simp only [execOp]
 rw [ao h2]; rfl
theorem iK {d m : Nat} {x : Option Operand} {K : Nat → R} (h : eX d m (x.map cX) e K = .ok v s') (hx : ∀ y, x = some y → RX θ e ρ y) : (x = none ∧ K d = .ok v s') ∨ ∃ y n k, x = some y ∧ K n = .ok v s' ∧ n ≤ m ∧ ρ y = .int k (.ofNat n) := by
 cases x with
 | none => exact .inl ⟨rfl, h⟩
 | some y =>
  obtain ⟨k, n, hy, h⟩ := fV (show kS cg (eP (cX y) e) (fun _ i => o6 cg i fun i => bif Nat.ble i m then K i else cg) = .ok v s' from h)
  obtain ⟨j, rfl, h⟩ := jt h
  obtain ⟨h1, h⟩ := dC h
  exact .inr ⟨y, j, k, rfl, h, nB h1, hx y rfl _ hy nofun⟩
theorem cr {k : IntKind} {i n : Nat} {c : BoundsCode} (h : i ≤ n) : (Instr.sliceBound (.int k (.ofNat i)) n c).run P w = .ok i w := by
 simp [Instr.sliceBound, asIntOf, h]
theorem sM {is : Bool} {len cap lim : Nat} {lo hi : Option Operand} {K : Nat → Nat → R} (h : eX len lim (hi.map cX) e (fun m => eX 0 m (lo.map cX) e fun l => K l m) = .ok v s') (hlim : lim ≤ cap) (hl : ∀ y, lo = some y → RX θ e ρ y) (hh : ∀ y, hi = some y → RX θ e ρ y) :
  ∃ l m, K l m = .ok v s' ∧ l ≤ m ∧ (m ≤ lim ∨ m = len) ∧ ∀ w, (Instr.sliceBounds is len cap (lo.map ρ) (hi.map ρ) none).run P w = .ok (l, m, cap) w := by
 rcases iK h hh with ⟨h0, h1⟩ | ⟨yh, m, kh, h0, h1, hm, eh⟩
 ·rcases iK h1 hl with ⟨h2, h3⟩ | ⟨yl, l, kl, h2, h3, hm', el⟩
  ·exact ⟨0, len, h3, Nat.zero_le _, .inr rfl, fun w => by rw [h0, h2]; simp [Instr.sliceBounds]⟩
  ·exact ⟨l, len, h3, hm', .inr rfl, fun w => by
    rw [h0, h2]
    simp only [Instr.sliceBounds, Option.map_some, Option.map_none, el, Sem.run_bind, Sem.run_pure, Result.andThen_ok, cr hm']⟩
 ·rcases iK h1 hl with ⟨h2, h3⟩ | ⟨yl, l, kl, h2, h3, hm', el⟩
  ·exact ⟨0, m, h3, Nat.zero_le _, .inl hm, fun w => by
    rw [h0, h2]
    simp only [Instr.sliceBounds, Option.map_some, Option.map_none, eh, Sem.run_bind, Sem.run_pure, Result.andThen_ok, cr (Nat.le_trans hm hlim)]⟩
  ·exact ⟨l, m, h3, hm', .inl hm, fun w => by
    rw [h0, h2]
    simp only [Instr.sliceBounds, Option.map_some, Option.map_none, eh, el, Sem.run_bind, Sem.run_pure, Result.andThen_ok, cr (Nat.le_trans hm hlim), cr hm']⟩
theorem DA {x : Operand} {lo hi : Option Operand} {t : Nat} (h : AK (cX x) (lo.map cX) (hi.map cX) F e s = .ok v s') (hx : RX θ e ρ x) (hl : ∀ y, lo = some y → RX θ e ρ y) (hh : ∀ y, hi = some y → RX θ e ρ y) (hr : Rel w0 T θ s w) (hu : P.underlying t = some .string) : Ends P w0 T θ s v s' ((execOp ρ ⟨dst, .slice t x lo hi none, ty, pos, af, g⟩).run P w) := by
 obtain ⟨n, c, hex, h⟩ := qI h
 obtain ⟨hc, hX⟩ := hx _ hex nofun
 have fin : ∀ l m : Nat, m ≤ n → l ≤ m → (Instr.sliceBounds false n n (lo.map ρ) (hi.map ρ) none).run P w = .ok (l, m, n) w → R.ok (.s (Nat.sub m l) (Nat.mod (Nat.div c (fq l)) (fq (Nat.sub m l)))) s = .ok v s' → Ends P w0 T θ s v s' ((execOp ρ ⟨dst, .slice t x lo hi none, ty, pos, af, g⟩).run P w) := fun l m hm hlm hb hk => by
  cases hk
  have e1 : (cZ n c).extract l m = cZ (m - l) (c / 256 ^ l % 256 ^ (m - l)) := by
   apply ByteArray.ext
   apply Array.ext'
   rw [ByteArray.data_extract, Array.toList_extract, dt, dt, List.extract_eq_take_drop, nm, nk _ _ _ (by omega)]
  refine .val (x := .string (cZ (m - l) (c / 256 ^ l % 256 ^ (m - l)))) hr ⟨Nat.mod_lt _ (Nat.pow_pos (by omega)), rfl⟩ ?_
  have h2 : (Instr.sliceAt t (ρ x) (lo.map ρ) (hi.map ρ) ((none : Option Operand).map ρ)).run P w = .ok (.string (cZ (m - l) (c / 256 ^ l % 256 ^ (m - l)))) w := by
   rw [hX]
   unfold Instr.sliceAt
   rw [ao (fo hu)]
   simp only
   unfold Instr.slice
   rw [ao (fo hu)]
   simp only [Option.map_none, Option.isSome_none, gI]
   simp [hb, e1]
  simp only [execOp]
  rw [ao h2]; rfl
 obtain ⟨l, m, hk, hlm, hm, hb⟩ := sM (P := P) (is := false) (cap := n) h (Nat.le_refl _) hl hh
 exact fin l m (by omega) hlm (hb w) hk
theorem se {t el n a b l m M : Nat} {X : Value} {len cap : Nat} {lo hi mx : Option Value} {inf : TypeInfo} (hu : P.underlying t = some (.slice el)) (hi' : P.info? el = some inf) (hs : inf.size = n) (hX : X = .slice (some ⟨b, a, none⟩) len cap) (hb : ∀ w, (Instr.sliceBounds true len cap lo hi mx).run P w = .ok (l, m, M) w) (w : World) :
  (Instr.sliceAt t X lo hi mx).run P w = .ok (.slice (some ⟨b, if M = l then a else a + l * n, none⟩) (m - l) (M - l)) w := by
 subst hX
 unfold Instr.sliceAt
 rw [ao (fo hu)]
 simp only
 unfold Instr.slice
 rw [ao (fo hu)]
 simp only
 rw [ao (hb w)]
 simp only
 rw [ao (bH hi')]
 split
 ·rfl
 ·rw [hs]; simp [dy]
theorem uf (off l sz m : Nat) : cutAt off l sz m = if m = l then off else off + l * sz := by
 unfold cutAt
 cases h : Nat.beq m l with
 | true => have := nE h; rw [if_pos this]; rfl
 | false => have := Nat.ne_of_beq_eq_false h; rw [if_neg this]; rfl
theorem DC {x : Operand} {lo hi : Option Operand} {t el n : Nat} {inf : TypeInfo} (h : tw n (cX x) (lo.map cX) (hi.map cX) F e s = .ok v s') (hx : RX θ e ρ x) (hl : ∀ y, lo = some y → RX θ e ρ y) (hh : ∀ y, hi = some y → RX θ e ρ y) (hr : Rel w0 T θ s w) (hu : P.underlying t = some (.slice el)) (hi' : P.info? el = some inf) (hs : inf.size = n) : Ends P w0 T θ s v s' ((execOp ρ ⟨dst, .slice t x lo hi none, ty, pos, af, g⟩).run P w) := by
 have fin : ∀ X v, s = s' → Rv θ v X → (Instr.sliceAt t (ρ x) (lo.map ρ) (hi.map ρ) none).run P w = .ok X w → Ends P w0 T θ s v s' ((execOp ρ ⟨dst, .slice t x lo hi none, ty, pos, af, g⟩).run P w) := fun X v hs hv h2 => by
  subst hs
  refine .val hr hv ?_
  simp only [execOp, Option.map_none]
  rw [ao h2]; rfl
 unfold tw at h
 split at h
 ·rename_i r off len cap known hex
  obtain ⟨pl, hp, hX, hinv⟩ := hx _ hex nofun
  cases known with
  | true =>
   obtain ⟨l, m, hk, hlm, hm, hb⟩ := sM (P := P) (is := true) (cap := cap) h (Nat.le_refl _) hl hh
   cases hk
   refine fin _ _ rfl ?_ (se hu hi' hs hX hb w)
   refine ⟨pl, hp, ?_, nofun⟩
   rw [uf]
   split <;> simp [Nat.add_assoc]
  | false =>
   have hinv := hinv rfl
   obtain ⟨l, m, hk, hlm, hm, hb⟩ := sM (P := P) (is := true) (cap := pl.c - cap) (lim := len) h (by omega) hl hh
   have hrun := se hu hi' hs hX hb w
   simp only [cdF] at hk
   cases h0 : Nat.beq l 0 with
   | true =>
    rw [h0] at hk
    have := nE h0
    subst this
    cases hk
    refine fin _ _ rfl ⟨pl, hp, ?_, fun _ => by omega⟩ hrun
    simp
   | false =>
    rw [h0] at hk
    have h0 := Nat.ne_of_beq_eq_false h0
    simp only [cdF] at hk
    cases h1 : Nat.ble (Nat.succ l) len with
    | true =>
     rw [h1] at hk
     have h1 := nB h1
     cases hk
     refine fin _ _ rfl ⟨pl, hp, ?_, fun _ => ?_⟩ hrun
     ·have : ¬ (pl.c - cap = l) := by omega
      rw [if_neg this]
      show _ = Value.slice (some ⟨pl.b, pl.a + (off + l * n), none⟩) (m - l) (pl.c - (cap + l))
      rw [Nat.add_assoc, Nat.sub_sub]
     ·show m - l + (cap + l) ≤ pl.c
      omega
    | false =>
     rw [h1] at hk
     have h1 : ¬ (l + 1 ≤ len) := fun h' => by rw [Nat.ble_eq_true_of_le h'] at h1; cases h1
     cases hk
     refine fin _ _ rfl ?_ hrun
     have : m - l = 0 := by omega
     rw [this]
     exact ⟨_, _, rfl⟩
 ·rename_i hex
  obtain ⟨hX, _⟩ := hx _ hex nofun
  obtain ⟨l, m, hk, hlm, hm, hb⟩ := sM (P := P) (is := true) (cap := 0) h (Nat.le_refl _) hl hh
  cases hk
  refine fin (.slice none 0 0) _ rfl ⟨rfl, rfl⟩ ?_
  rw [hX]
  unfold Instr.sliceAt
  rw [ao (fo hu)]
  simp only
  unfold Instr.slice
  rw [ao (fo hu)]
  simp only
  rw [ao (hb w)]
  have e1 : m = 0 := by omega
  have e2 : l = 0 := by omega
  subst e1; subst e2
  simp only
  rw [ao (bH hi')]
  rfl
 ·cases h
theorem DB {x hi mx : Operand} {lo : Option Operand} {t el n : Nat} {inf : TypeInfo} (h : tv n (cX x) (lo.map cX) (cX hi) (cX mx) F e s = .ok v s') (hx : RX θ e ρ x) (hl : ∀ y, lo = some y → RX θ e ρ y) (hh : RX θ e ρ hi) (hm : RX θ e ρ mx) (hr : Rel w0 T θ s w) (hu : P.underlying t = some (.slice el)) (hi' : P.info? el = some inf) (hs : inf.size = n) : Ends P w0 T θ s v s' ((execOp ρ ⟨dst, .slice t x lo (some hi) (some mx), ty, pos, af, g⟩).run P w) := by
 unfold tv at h
 split at h
 ·rename_i r off len cap known hex
  obtain ⟨pl, hp, hX, hinv⟩ := hx _ hex nofun
  obtain ⟨C, hC, hlim⟩ : ∃ C, (bif known then cap else pl.c - cap) = C ∧ (bif known then cap else len) ≤ C := by
   refine ⟨_, rfl, ?_⟩
   cases known with
   | true => exact Nat.le_refl _
   | false => have := hinv rfl; simp only [cdF]; omega
  rw [hC] at hX
  rcases iK (x := some mx) h (fun y hy => by cases hy; exact hm) with ⟨h0, _⟩ | ⟨ym, M, km, h0, h1, hM, em⟩
  ·cases h0
  ·cases h0
   rcases iK (x := some hi) h1 (fun y hy => by cases hy; exact hh) with ⟨h0, _⟩ | ⟨yh, m, kh, h0, h2, hm', eh⟩
   ·cases h0
   ·cases h0
    have fin : ∀ l, l ≤ m → (∀ w, (Instr.sliceBounds true len C (lo.map ρ) (some (ρ hi)) (some (ρ mx))).run P w = .ok (l, m, M) w) → R.ok (.sl r (cutAt off l n M) (Nat.sub m l) (Nat.sub M l) true) s = .ok v s' → Ends P w0 T θ s v s' ((execOp ρ ⟨dst, .slice t x lo (some hi) (some mx), ty, pos, af, g⟩).run P w) := fun l hlm hb hk => by
     cases hk
     refine .val hr (x := .slice (some ⟨pl.b, if M = l then pl.a + off else pl.a + off + l * n, none⟩) (m - l) (M - l)) ⟨pl, hp, ?_, nofun⟩ ?_
     ·rw [uf]
      split <;> simp [Nat.add_assoc]
     ·simp only [execOp, Option.map_some]
      rw [ao (se hu hi' hs hX hb w)]; rfl
    rcases iK h2 hl with ⟨h3, h4⟩ | ⟨yl, l, kl, h3, h4, hm'', el⟩
    ·subst h3
     refine fin 0 (Nat.zero_le _) (fun w => ?_) h4
     simp only [Instr.sliceBounds, Option.map_none, em, eh, Sem.run_bind, Sem.run_pure, Result.andThen_ok, cr (Nat.le_trans hM hlim), cr hm']
    ·subst h3
     refine fin l hm'' (fun w => ?_) h4
     simp only [Instr.sliceBounds, Option.map_some, em, eh, el, Sem.run_bind, Sem.run_pure, Result.andThen_ok, cr (Nat.le_trans hM hlim), cr hm', cr hm'']
 ·rename_i hex
  obtain ⟨hX, _⟩ := hx _ hex nofun
  rcases iK (x := some mx) h (fun y hy => by cases hy; exact hm) with ⟨h0, _⟩ | ⟨ym, M, km, h0, h1, hM, em⟩
  ·cases h0
  ·cases h0
   rcases iK (x := some hi) h1 (fun y hy => by cases hy; exact hh) with ⟨h0, _⟩ | ⟨yh, m, kh, h0, h2, hm', eh⟩
   ·cases h0
   ·cases h0
    have e1 : M = 0 := by omega
    have e2 : m = 0 := by omega
    subst e1; subst e2
    have fin : (∀ w, (Instr.sliceBounds true 0 0 (lo.map ρ) (some (ρ hi)) (some (ρ mx))).run P w = .ok (0, 0, 0) w) → R.ok (.c (.slice none 0 0)) s = .ok v s' → Ends P w0 T θ s v s' ((execOp ρ ⟨dst, .slice t x lo (some hi) (some mx), ty, pos, af, g⟩).run P w) := fun hb hk => by
     cases hk
     refine .val hr (x := .slice none 0 0) ⟨rfl, rfl⟩ ?_
     have : (Instr.sliceAt t (ρ x) (lo.map ρ) (some (ρ hi)) (some (ρ mx))).run P w = .ok (.slice none 0 0) w := by
      rw [hX]
      unfold Instr.sliceAt
      rw [ao (fo hu)]
      simp only
      unfold Instr.slice
      rw [ao (fo hu)]
      simp only
      rw [ao (hb w)]
      simp only
      rw [ao (bH hi')]
      rfl
     simp only [execOp, Option.map_some]
     rw [ao this]; rfl
    rcases iK h2 hl with ⟨h3, h4⟩ | ⟨yl, l, kl, h3, h4, hm'', el⟩
    ·subst h3
     refine fin (fun w => ?_) h4
     simp only [Instr.sliceBounds, Option.map_none, em, eh, Sem.run_bind, Sem.run_pure, Result.andThen_ok, cr (Nat.le_refl 0)]
    ·subst h3
     have e3 : l = 0 := by omega
     subst e3
     refine fin (fun w => ?_) h4
     simp only [Instr.sliceBounds, Option.map_some, em, eh, el, Sem.run_bind, Sem.run_pure, Result.andThen_ok, cr (Nat.le_refl 0)]
 ·cases h
end Ci
namespace Ci
open Go
variable {P : Program} {w0 : World} {T : Nat → Prop} {θ : Th} {s s' : St} {w : World} {e : Env} {ρ : Operand → Value} {F : Fs} {v : V}
variable {dst : Option Tmp} {ty : TypeId} {pos : String} {af : Array Edge} {g : Option (Nat × Bool)}
theorem fk {b : Builtin} {args : Array Operand} {tys : Array TypeId} {X : Value} {w w' : World} (h : (builtin b tys ty (args.map fun | .const _ => true | _ => false) (args.map ρ)).run P w = .ok (.value X) w') : (execOp ρ ⟨dst, .call ⟨.builtin b, args, tys⟩, ty, pos, af, g⟩).run P w = .ok (.value X) w' := by
 simp only [execOp, resolve, Sem.run_bind, Sem.run_pure, Result.andThen_ok, invoke]
 exact h
theorem iX (n : Nat) : goInt n = .int .i64 (n : Int) := rfl
theorem Cd {x : Operand} {t : Nat} (h : xN (cX x) F e s = .ok v s') (hx : RX θ e ρ x) (hr : Rel w0 T θ s w) (hu : P.underlying t = some .string) : Ends P w0 T θ s v s' ((execOp ρ ⟨dst, .call ⟨.builtin .len, #[x], #[t]⟩, ty, pos, af, g⟩).run P w) := by
 obtain ⟨n, c, hex, h⟩ := qI h
 cases h
 obtain ⟨hc, hX⟩ := hx _ hex nofun
 refine .val (x := .int .i64 (n : Int)) hr rfl (fk ?_)
 simp [builtin, Builtin.len_, hX, fo hu, iX, gI]
theorem Cf {x : Operand} {t el : Nat} (h : pF (cX x) F e s = .ok v s') (hx : RX θ e ρ x) (hr : Rel w0 T θ s w) (hu : P.underlying t = some (.slice el)) : Ends P w0 T θ s v s' ((execOp ρ ⟨dst, .call ⟨.builtin .len, #[x], #[t]⟩, ty, pos, af, g⟩).run P w) := by
 unfold pF at h
 have fin : ∀ a n c, ρ x = .slice a n c → v = .i .i64 (.ofNat n) → s = s' → Ends P w0 T θ s v s' ((execOp ρ ⟨dst, .call ⟨.builtin .len, #[x], #[t]⟩, ty, pos, af, g⟩).run P w) := fun a n c hX hv hs => by
  subst hs; subst hv
  refine .val (x := .int .i64 (n : Int)) hr rfl (fk ?_)
  simp [builtin, Builtin.len_, hX, fo hu, iX]
 split at h
 ·rename_i r off n c k hex; cases h
  obtain ⟨pl, hp, hX, _⟩ := hx _ hex nofun
  exact fin _ _ _ hX rfl rfl
 ·rename_i hex; cases h
  obtain ⟨a, c, hX⟩ := hx _ hex nofun
  exact fin _ _ _ hX rfl rfl
 ·rename_i n c hex; cases h
  obtain ⟨hX, _⟩ := hx _ hex nofun
  exact fin _ _ _ hX rfl rfl
 ·cases h
theorem Co {x : Operand} {t el : Nat} (h : pH (cX x) F e s = .ok v s') (hx : RX θ e ρ x) (hr : Rel w0 T θ s w) (hu : P.underlying t = some (.slice el)) : Ends P w0 T θ s v s' ((execOp ρ ⟨dst, .call ⟨.builtin .cap, #[x], #[t]⟩, ty, pos, af, g⟩).run P w) := by
 unfold pH at h
 have fin : ∀ a n c, ρ x = .slice a n c → v = .i .i64 (.ofNat c) → s = s' → Ends P w0 T θ s v s' ((execOp ρ ⟨dst, .call ⟨.builtin .cap, #[x], #[t]⟩, ty, pos, af, g⟩).run P w) := fun a n c hX hv hs => by
  subst hs; subst hv
  refine .val (x := .int .i64 (c : Int)) hr rfl (fk ?_)
  simp [builtin, Builtin.cap_, hX, fo hu, iX]
 split at h
 ·rename_i r off n c hex; cases h
  obtain ⟨pl, hp, hX, _⟩ := hx _ hex nofun
  exact fin _ _ _ hX rfl rfl
 ·rename_i n c hex; cases h
  obtain ⟨hX, _⟩ := hx _ hex nofun
  exact fin _ _ _ hX rfl rfl
 ·cases h
theorem DO {x y : Operand} {tys : Array Nat} (h : AR (cX x) (cX y) F e s = .ok v s') (hx : RX θ e ρ x) (hy : RX θ e ρ y) (hr : Rel w0 T θ s w) : Ends P w0 T θ s v s' ((execOp ρ ⟨dst, .call ⟨.builtin .min, #[x, y], tys⟩, ty, pos, af, g⟩).run P w) := by
 obtain ⟨k, a, hex, h⟩ := fV h
 obtain ⟨k', b, hey, h⟩ := fV h
 cases h
 have hX : ρ x = .int k a := hx _ hex nofun
 have hY : ρ y = .int k' b := hy _ hey nofun
 refine .val (x := .int k (if b < a then b else a)) hr ?_ (fk ?_)
 ·rw [sw]
  by_cases hb : b < a <;> simp [hb, Rv]
 ·simp [builtin, Builtin.min_, Builtin.min2, hX, hY]
theorem DP {x y : Operand} {tys : Array Nat} (h : AS (cX x) (cX y) F e s = .ok v s') (hx : RX θ e ρ x) (hy : RX θ e ρ y) (hr : Rel w0 T θ s w) : Ends P w0 T θ s v s' ((execOp ρ ⟨dst, .call ⟨.builtin .max, #[x, y], tys⟩, ty, pos, af, g⟩).run P w) := by
 obtain ⟨k, a, hex, h⟩ := fV h
 obtain ⟨k', b, hey, h⟩ := fV h
 cases h
 have hX : ρ x = .int k a := hx _ hex nofun
 have hY : ρ y = .int k' b := hy _ hey nofun
 refine .val (x := .int k (if b > a then b else a)) hr ?_ (fk ?_)
 ·rw [sw]
  by_cases hb : a < b <;> simp [hb, Rv]
 ·simp [builtin, Builtin.max_, Builtin.max2, hX, hY]
theorem Bq {t : Nat} : jM P θ w (.map [] 0) .m ((execOp ρ ⟨dst, .makeMap t none, ty, pos, af, g⟩).run P w) := ⟨.map (some w.heap.size), .map #[] 0, rfl, ⟨[], rfl, rfl⟩, fun θ' q hq => ⟨_, hq, rfl⟩⟩
theorem DL {t : Nat} (h : pE F e s = .ok v s') (hr : Rel w0 T θ s w) : Ends P w0 T θ s v s' ((execOp ρ ⟨dst, .makeMap t none, ty, pos, af, g⟩).run P w) := by
 unfold pE fG at h
 cases h
 exact Bq.ends hr
theorem rI (off : Nat) : ∀ (vs : List Value) (j : Nat) (cells : Array Value), off + j + vs.length ≤ cells.size →
  ((vs.zipIdx j).foldl (fun cs p => cs.setIfInBounds (off + p.2) p.1) cells).toList = cells.toList.take (off + j) ++ (vs ++ cells.toList.drop (off + j + vs.length))
 | [], j, cells, _ => by simp
 | v :: vs, j, cells, h => by
  simp only [List.length_cons] at h
  simp only [List.zipIdx_cons, List.foldl_cons]
  rw [rI off vs (j + 1) _ (by simp only [Array.size_setIfInBounds]; omega)]
  simp only [Array.toList_setIfInBounds, List.length_cons]
  have hl : off + j < cells.toList.length := by simp only [Array.length_toList]; omega
  rw [List.set_eq_take_append_cons_drop, if_pos hl]
  rw [show off + (j + 1) = (cells.toList.take (off + j)).length + 1 by simp only [List.length_take]; omega, List.take_length_add_append]
  simp only [List.take_succ_cons, List.take_zero, List.append_assoc, List.cons_append, List.nil_append]
  congr 2
  rw [show (cells.toList.take (off + j)).length + 1 + vs.length = (cells.toList.take (off + j)).length + (1 + vs.length) by omega, List.drop_length_add_append]
  congr 1
  rw [show 1 + vs.length = vs.length + 1 by omega, List.drop_succ_cons, List.drop_drop]
  congr 1
  omega
theorem pv {pl : Nat → Option (Nat × Nat)} : ∀ {ps : List (Nat × Operand)} {l : List (Nat × Nat × X)} {cs : List V} {ys : List Value} {K : List V → R}, mC pl ps = some l → kO l e cs K = .ok v s' → (∀ p ∈ ps, RX θ e ρ p.2) → fy θ cs ys → cs.all cz = true →
  ∃ cs' ys', K cs' = .ok v s' ∧ fy θ cs' ys' ∧ cs'.all cz = true ∧ Instr.fill pl ys.toArray (ps.map fun p => (p.1, ρ p.2)) = some ys'.toArray
 | [], l, cs, ys, K, hp, h, _, hv, hc => by
  obtain rfl := oI hp
  exact ⟨cs, ys, h, hv, hc, rfl⟩
 | p :: ps, l, cs, ys, K, hp, h, hx, hv, hc => by
  simp only [mC] at hp
  split at hp
  ·rename_i q l' hq hl'
   obtain rfl := oI hp
   have h' : uz cg (eP (cX p.2) e) (fun v => bif fO (cellsOf v) q.2 then (Option.rec cg (fun cs => kO l' e cs K) (tG q.1 (cellsOf v) cs) : R) else cg) = .ok v s' := h
   clear h
   obtain ⟨h1, h2, h'⟩ := iW h'
   obtain ⟨h3, h'⟩ := dC h'
   obtain ⟨cs1, h4, h⟩ := jr (K := fun cs => kO l' e cs K) h'
   obtain ⟨h5, rfl⟩ := nU h4
   obtain ⟨h6, h7⟩ := qB (hx p (List.mem_cons_self ..) _ rfl h1) h2
   have hl := h6.length
   have hvl := hv.length
   have h3 := gM h3
   obtain ⟨cs', ys', a1, a2, a3, a4⟩ := pv (ys := ys.take q.1 ++ ((ρ p.2).cells.toList ++ ys.drop (q.1 + (ρ p.2).cells.toList.length))) hl' h (fun p' hp' => hx p' (List.mem_cons_of_mem _ hp')) (by rw [hl]; exact (hv.take _).app (h6.app (hv.drop _))) (by
    rw [List.all_eq_true] at hc h7 ⊢
    intro x hx
    simp only [List.mem_append] at hx
    rcases hx with hx | hx | hx
    ·exact hc x (List.mem_of_mem_take hx)
    ·exact h7 x hx
    ·exact hc x (List.mem_of_mem_drop hx))
   refine ⟨cs', ys', a1, a2, a3, ?_⟩
   obtain ⟨off, size⟩ := q
   simp only [List.map_cons, Instr.fill, hq]
   have hsz : (ρ p.2).cells.size = size := by rw [← Array.length_toList, ← hl]; exact h3
   have hno : ¬ ((decide ((ρ p.2).cells.size ≠ size) || decide (off + (ρ p.2).cells.size > ys.toArray.size)) = true) := by
    simp only [Bool.or_eq_true, decide_eq_true_eq, List.size_toArray]
    simp only at h5
    omega
   rw [if_neg hno]
   have e1 : ((ρ p.2).cells.zipIdx.foldl (fun cs x => match x with | (c, j) => cs.setIfInBounds (off + j) c) ys.toArray) = (ys.take off ++ ((ρ p.2).cells.toList ++ ys.drop (off + (ρ p.2).cells.toList.length))).toArray := by
    apply Array.ext'
    have := rI off ((ρ p.2).cells.toList) 0 ys.toArray (by simp only [Array.length_toList, List.size_toArray]; simp only at h5; omega)
    rw [← Array.foldl_toList]
    simp only [Array.toList_zipIdx]
    exact this
   rw [e1]
   exact a4
  ·cases hp
theorem qT {t : Nat} {pl : Nat → Option (Nat × Nat)} {z : List Value} (h : pq P t = some (pl, z)) (parts : List (Nat × Value)) : P.built t parts = Instr.fill pl z.toArray parts := by
 unfold pq at h
 unfold Program.built
 split at h
 ·rename_i it e hi hu
  split at h
  ·rename_i z' ie hz hie
   simp only [Option.some.injEq, Prod.mk.injEq] at h
   obtain ⟨rfl, rfl⟩ := h
   simp [hi, hu, hz, hie]
  ·cases h
 ·rename_i it fields hi hu
  split at h
  ·rename_i z' places hz hp
   simp only [Option.some.injEq, Prod.mk.injEq] at h
   obtain ⟨rfl, rfl⟩ := h
   simp [hi, hu, hz, hp]
  ·cases h
 ·cases h
theorem D3 {t : Nat} {ps : Array (Nat × Operand)} {l : List (Nat × Nat × X)} {pl : Nat → Option (Nat × Nat)} {z : List Value} (h : Ba (z.map dQ) l F e s = .ok v s') (hpl : pq P t = some (pl, z)) (hp : mC pl ps.toList = some l) (hz : (z.map dQ).all cz = true) (hx : ∀ p ∈ ps.toList, RX θ e ρ p.2) (hr : Rel w0 T θ s w) : Ends P w0 T θ s v s' ((execOp ρ ⟨dst, .build t ps, ty, pos, af, g⟩).run P w) := by
 obtain ⟨cs, ys, h1, h2, h3, h4⟩ := pv hp h hx (jm (θ := θ) hz) hz
 cases h1
 refine .val (x := .agg ys.toArray) hr ⟨ys, rfl, h2, h3⟩ ?_
 have hb : P.built t (ps.map fun (x : Nat × Operand) => (x.1, ρ x.2)).toList = some ys.toArray := by
  rw [qT hpl, Array.toList_map]
  exact h4
 have := run_build w t _ _ hb
 simp only [execOp]
 rw [ao this]
 rfl
end Ci
namespace Ci
open Go
variable {P : Program} {w0 : World} {T : Nat → Prop} {θ : Th} {s s' : St} {w : World} {e : Env} {ρ : Operand → Value} {F : Fs} {v : V}
variable {dst : Option Tmp} {ty : TypeId} {pos : String} {af : Array Edge} {g : Option (Nat × Bool)}
theorem range_zero (z : Array Value) : ∀ n, (List.range (n * z.size)).map (fun i => z[i % z.size]!) = (List.replicate n z.toList).flatten
 | 0 => by simp
 | n + 1 => by
  rw [Nat.succ_mul, Nat.add_comm, List.range_add, List.map_append, List.map_map, List.replicate_succ, List.flatten_cons, ← range_zero z n]
  congr 1
  ·apply List.ext_getElem?
   intro j
   by_cases hj : j < z.size
   ·rw [List.getElem?_map, List.getElem?_range hj]
    simp [Nat.mod_eq_of_lt hj, hj]
   ·rw [List.getElem?_eq_none (by simp; omega), List.getElem?_eq_none (by simp; omega)]
  ·exact List.map_congr_left fun i _ => by simp
theorem nt (z : Array Value) (n : Nat) : (Array.range (n * z.size)).map (fun i => z[i % z.size]!) = (List.replicate n z.toList).flatten.toArray := by
 apply Array.ext'
 rw [Array.toList_map, Array.toList_range, range_zero]
theorem fy.rep {zs : List V} {ys : List Value} (h : fy θ zs ys) (hc : zs.all cz = true) : ∀ n, fy θ (pV zs n) (List.replicate n ys).flatten ∧ (pV zs n).all cz = true
 | 0 => ⟨rfl, rfl⟩
 | n + 1 => by
  have ih := fy.rep h hc n
  have e1 : pV zs (n + 1) = zs ++ pV zs n := by
   show j9 zs (pV zs n) = _
   rw [gX]
  rw [e1, List.replicate_succ, List.flatten_cons]
  exact ⟨h.app ih.1, by rw [List.all_append, hc, ih.2]; rfl⟩
theorem wk (b : Nat) (w : World) : (askRoom b).run P w = .ok () w := by
 unfold askRoom
 split <;> rfl
theorem Br {t el n : Nat} {ps : Array (Nat × Operand)} {inf : TypeInfo} {z : Value} {cs : List V} {ys : List Value} (hu : P.underlying t = some (.slice el)) (hi : P.info? el = some inf) (hz : inf.zero = some z) (hsz : z.cells.size = inf.size) (hn : n * inf.size ≤ 0x1000000) (h2 : fy θ cs ys) (h3 : cs.all cz = true)
  (h4 : Instr.fill (fun i => some (i * inf.size, inf.size)) (List.replicate n z.cells.toList).flatten.toArray (ps.toList.map fun p => (p.1, ρ p.2)) = some ys.toArray) : jM P θ w (.cells cs) (fun q => .sl q 0 n n true) ((execOp ρ ⟨dst, .buildSlice t n ps, ty, pos, af, g⟩).run P w) := by
 refine ⟨.slice (some ⟨w.heap.size, 0, none⟩) n n, .cells ys.toArray el (0, 0), ?_, ⟨[], ys, [], el, by simp, rfl, h2, h3⟩, fun θ' q hq => ⟨_, hq, rfl, nofun⟩⟩
 have h5 : (Instr.buildSlice t n (ps.map fun (x : Nat × Operand) => (x.1, ρ x.2))).run P w = .ok (.slice (some ⟨w.heap.size, 0, none⟩) n n) { w with heap := w.heap.push (.cells ys.toArray el (0, 0)) } := by
  unfold Instr.buildSlice
  rw [ao (fo hu)]
  simp only
  rw [ao (bH hi)]
  have hno : ¬ (n * inf.size > 2 ^ 24) := by omega
  rw [if_neg hno]
  have h4' : Instr.fill (fun i => some (i * inf.size, inf.size)) (List.replicate n z.cells.toList).flatten.toArray (ps.toList.map fun x => (x.1, ρ x.2)) = some ys.toArray := h4
  have hrow : ∀ z' : Array Value, (n * inf.size = 0 ∨ z' = z.cells) → (Array.range (n * inf.size)).map (fun i => z'[i % z'.size]!) = (List.replicate n z.cells.toList).flatten.toArray := fun z' hz' => by
   rw [← nt, hsz]
   rcases hz' with h0 | rfl
   ·rw [h0]; simp
   ·rw [hsz]
  by_cases h0 : n * inf.size = 0
  ·rw [if_pos h0, ao (a := #[]) (w' := w) rfl, hrow _ (.inl h0), Array.toList_map, h4']
   rfl
  ·rw [if_neg h0, ao (jN hi hz w), ao (a := z.cells) (w' := w) rfl, hrow _ (.inr rfl), Array.toList_map, h4']
   rfl
 simp only [execOp]
 rw [ao h5]
 rfl
theorem D1 {t el n : Nat} {ps : Array (Nat × Operand)} {l : List (Nat × Nat × X)} {inf : TypeInfo} {z : Value} (h : A5 (z.cells.toList.map dQ).length n (pV (z.cells.toList.map dQ) n) l F e s = .ok v s') (hu : P.underlying t = some (.slice el)) (hi : P.info? el = some inf) (hz : inf.zero = some z) (hlen : (z.cells.toList.map dQ).length = inf.size) (hc : (z.cells.toList.map dQ).all cz = true)
  (hp : mC (fun i => some (i * (z.cells.toList.map dQ).length, (z.cells.toList.map dQ).length)) ps.toList = some l) (hn : n * (z.cells.toList.map dQ).length ≤ 0x1000000) (hx : ∀ p ∈ ps.toList, RX θ e ρ p.2) (hr : Rel w0 T θ s w) : Ends P w0 T θ s v s' ((execOp ρ ⟨dst, .buildSlice t n ps, ty, pos, af, g⟩).run P w) := by
 have hsz : z.cells.size = inf.size := by rw [← hlen]; simp
 rw [hlen] at hp hn
 obtain ⟨rz1, rz2⟩ := fy.rep (θ := θ) (jm hc) hc n
 obtain ⟨cs, ys, h1, h2, h3, h4⟩ := pv hp h hx rz1 rz2
 unfold fG at h1
 cases h1
 exact (Br hu hi hz hsz hn h2 h3 h4).ends hr
theorem Bp {x y : Operand} {t el l c : Nat} {kl kc : IntKind} {inf : TypeInfo} {z : Value} (hu : P.underlying t = some (.slice el)) (hi : P.info? el = some inf) (hz : inf.zero = some z) (hlen : (z.cells.toList.map dQ).length = inf.size) (hc : (z.cells.toList.map dQ).all cz = true) (hX : ρ x = .int kl (.ofNat l)) (hY : ρ y = .int kc (.ofNat c)) (hb1 : l ≤ c) (hb2 : inf.bytes * c ≤ 0x100000) (hb3 : c ≤ 0x100000) : jM P θ w (.cells (pV (z.cells.toList.map dQ) c)) (fun q => .sl q 0 l c true) ((execOp ρ ⟨dst, .makeSlice t x y, ty, pos, af, g⟩).run P w) := by
 have hsz : z.cells.size = inf.size := by rw [← hlen]; simp
 obtain ⟨rz1, rz2⟩ := fy.rep (θ := θ) (jm hc) hc c
 refine ⟨.slice (some ⟨w.heap.size, 0, none⟩) l c, .cells (List.replicate c z.cells.toList).flatten.toArray el (0, 0), ?_, ⟨[], _, [], el, by simp, rfl, rz1, rz2⟩, fun θ' q hq => ⟨_, hq, rfl, nofun⟩⟩
 have wr : ∀ n : Nat, n ≤ 0x100000 → IntKind.i64.wrap (Int.ofNat n) = (n : Int) := fun n hn => by
  rw [← hQ]
  unfold mf
  rw [Nat.ble_eq_true_of_le (show n ≤ kU .i64 by simp only [kU]; omega)]
  rfl
 have h5 : (Instr.makeSlice t (ρ x) (ρ y)).run P w = .ok (.slice (some ⟨w.heap.size, 0, none⟩) l c) { w with heap := w.heap.push (.cells (List.replicate c z.cells.toList).flatten.toArray el (0, 0)) } := by
  rw [hX, hY]
  unfold Instr.makeSlice
  rw [ao (fo hu)]
  have ai : ∀ (k : IntKind) (n : Int), (asInt (.int k n)).run P w = .ok n w := fun k n => by simp [asInt, asIntOf]
  rw [ao (ai _ _), ao (ai _ _), ao (show (typeInfo el).run P w = .ok inf w by simp [typeInfo, hi])]
  simp only [wr l (by omega), wr c hb3]
  have hno : ¬ ((decide ((c : Int) < 0) || decide ((inf.bytes : Int) * (c : Int) > 2 ^ 48) || decide ((l : Int) < 0) || decide ((l : Int) > (c : Int))) = true) := by
   have : (inf.bytes : Int) * (c : Int) = ((inf.bytes * c : Nat) : Int) := by simp
   simp only [Bool.or_eq_true, decide_eq_true_eq, this]
   omega
  rw [if_neg hno]
  rw [ao (wk _ _), ao (bH hi), Int.toNat_natCast, Int.toNat_natCast]
  have hrow : ∀ z' : Array Value, (c * inf.size = 0 ∨ z' = z.cells) → (Array.range (c * inf.size)).map (fun i => z'[i % z'.size]!) = (List.replicate c z.cells.toList).flatten.toArray := fun z' hz' => by
   rw [← nt, hsz]
   rcases hz' with h0 | rfl
   ·rw [h0]; simp
   ·rw [hsz]
  by_cases h0 : c * inf.size = 0
  ·rw [if_pos h0, ao (a := #[]) (w' := w) rfl, hrow _ (.inl h0)]
   rfl
  ·rw [if_neg h0, ao (jN hi hz w), ao (a := z.cells) (w' := w) rfl, hrow _ (.inr rfl)]
   rfl
 simp only [execOp]
 rw [ao h5]
 rfl
theorem DK {x y : Operand} {t el : Nat} {inf : TypeInfo} {z : Value} (h : vC inf.bytes (z.cells.toList.map dQ) (cX x) (cX y) F e s = .ok v s') (hx : RX θ e ρ x) (hy : RX θ e ρ y) (hr : Rel w0 T θ s w) (hu : P.underlying t = some (.slice el)) (hi : P.info? el = some inf) (hz : inf.zero = some z) (hlen : (z.cells.toList.map dQ).length = inf.size) (hc : (z.cells.toList.map dQ).all cz = true) : Ends P w0 T θ s v s' ((execOp ρ ⟨dst, .makeSlice t x y, ty, pos, af, g⟩).run P w) := by
 obtain ⟨kl, l', hl, h1⟩ := fV h
 clear h
 obtain ⟨kc, c', hcc, h2⟩ := fV h1
 clear h1
 obtain ⟨l, rfl, h3⟩ := jt h2
 clear h2
 obtain ⟨c, rfl, h4⟩ := jt h3
 clear h3
 obtain ⟨hb, h⟩ := dC h4
 clear h4
 simp only [Bool.and_eq_true] at hb
 obtain ⟨⟨hb1, hb2⟩, hb3⟩ := hb
 have hb1 := nB hb1
 have hb2 : inf.bytes * c ≤ 0x100000 := nB hb2
 have hb3 := nB hb3
 unfold fG at h
 cases h
 exact (Bp hu hi hz hlen hc (hx _ hl nofun) (hy _ hcc nofun) hb1 hb2 hb3).ends hr
end Ci
namespace Ci
open Go
variable {P : Program} {w0 : World} {T : Nat → Prop} {θ : Th} {s s' : St} {w : World} {e : Env} {ρ : Operand → Value} {F : Fs} {v : V}
variable {dst : Option Tmp} {ty : TypeId} {pos : String} {af : Array Edge} {g : Option (Nat × Bool)}
theorem uX {w w' : World} {θ : Th} {pl : Pl} {cs : List V} {mk : List V → O} {hd ys tl : List Value} {t : Nat} (h : uw θ w pl cs mk hd ys tl t) (he : w'.heap = w.heap) : uw θ w' pl cs mk hd ys tl t := ⟨by rw [he]; exact h.heap, h.a, h.vs, h.one, h.back⟩
theorem tP {sz : Nat} {x : V} {K : Nat → List V → R} {X : Value} (h : vO sz x s K = .ok v s') (hv : Rv θ x X) (hr : Rel w0 T θ s w) : ∃ n xs ys, K n xs = .ok v s' ∧ (∀ w', (Builtin.lenOf X).run P w' = .ok n w') ∧ fy θ xs ys ∧ xs.all cz = true ∧ ys.length = n * sz ∧ ∀ k, k ≤ n → ∀ w', w'.heap = w.heap → (Builtin.firstCells sz k X).run P w' = .ok (ys.take (k * sz)).toArray w' := by
 unfold vO at h
 split at h
 ·rename_i r off len cap known
  obtain ⟨cs, mk, h1, hm⟩ := eW h
  rw [fj] at h1
  obtain ⟨h2, h3⟩ := ia h1
  obtain ⟨pl, hp, rfl, _⟩ := hv
  obtain ⟨hn, hd, ys, tl, ct, L⟩ := hr.tS hp hm
  have hl := L.vs.length
  have h2 : len * sz ≤ (cs.drop off).length := h2
  rw [List.length_drop] at h2
  refine ⟨len, _, (ys.drop off).take (len * sz), h3, fun _ => rfl, (L.vs.drop off).take _, ?_, ?_, fun k hk w' hw => ?_⟩
  ·have := L.one
   rw [List.all_eq_true] at this ⊢
   exact fun x hx => this x (List.mem_of_mem_drop (List.mem_of_mem_take hx))
  ·rw [List.length_take, List.length_drop]; omega
  ·have hks : k * sz ≤ len * sz := Nat.mul_le_mul_right _ hk
   rw [List.take_take, Nat.min_eq_left hks]
   show (loadCells _ (k * sz)).run P w' = _
   by_cases h0 : k * sz = 0
   ·rw [h0]; simp [loadCells, loadCellsFrom]
   ·exact (uX L hw).load (by omega)
 ·obtain ⟨a, c, rfl⟩ := hv
  refine ⟨0, [], [], h, fun _ => rfl, rfl, rfl, by simp, fun k hk w' _ => ?_⟩
  obtain rfl : k = 0 := by omega
  simp [Builtin.firstCells, loadCells, loadCellsFrom]
 ·obtain ⟨rfl, _⟩ := hv
  refine ⟨0, [], [], h, fun _ => rfl, rfl, rfl, by simp, fun k hk w' _ => by simp [Builtin.firstCells]⟩
 ·rename_i n c
  obtain ⟨h1, h⟩ := dC h
  obtain rfl := nE h1
  obtain ⟨hc, rfl⟩ := hv
  obtain ⟨b1, b2⟩ := rU (θ := θ) n c
  refine ⟨n, _, _, h, fun w' => by simp [Builtin.lenOf, gI], b1, b2, by simp [gg], fun k hk w' _ => ?_⟩
  simp only [Builtin.firstCells, Sem.run_pure, Nat.mul_one]
  congr 1
  apply Array.ext'
  rw [Array.toList_map, ByteArray.data_extract, Array.toList_extract, dt, List.extract_eq_take_drop, List.toList_toArray, List.map_take]
  simp
 ·cases h
theorem zX (n c : Nat) (h : c < n) : Builtin.nextslicecap n c ≤ 4 * n + 4000 := by
 unfold Builtin.nextslicecap
 split
 ·omega
 ·split
  ·omega
  ·have : ∀ k c, Builtin.growBy n k c ≤ max c (n + (n + 768) / 4) := fun k => by
    induction k with
    | zero => intro c; simp [Builtin.growBy]; omega
    | succ k ih =>
     intro c
     simp only [Builtin.growBy]
     split
     ·omega
     ·refine Nat.le_trans (ih _) ?_
      omega
   have := this 4 c
   omega
section
variable {t t' el sz n sLen sCap : Nat} {inf : TypeInfo} {z X : Value} {base : Option Addr} {news olds : List Value}
theorem qM (hu : P.underlying t = some (.slice el)) (hu' : (∃ e, P.underlying t' = some (.slice e)) ∨ P.underlying t' = some .string) (hi : P.info? el = some inf) (hX1 : ∀ w', (Builtin.lenOf X).run P w' = .ok n w') (hX2 : (Builtin.firstCells inf.size n X).run P w = .ok news.toArray w) (hroom : sLen + n ≤ sCap) {w1 : World} (hst : ∀ a, base = some a → (storeCells (a.add (sLen * inf.size)) news).run P w = .ok () w1) (hw1 : base = none → w1 = w) :
  (Builtin.append_ #[t, t'] ty #[.slice base sLen sCap, X]).run P w = .ok (.slice base (sLen + n) sCap) w1 := by
 unfold Builtin.append_
 simp only [List.getElem?_toArray, List.getElem?_cons_zero, List.getElem?_cons_succ]
 rw [ao (fo hu)]
 simp only
 rw [ao (bH hi)]
 rcases hu' with ⟨e', hu'⟩ | hu' <;> (
 rw [ao (fo hu')]
 rw [ao (a := false) (w' := w) rfl]
 simp only [Bool.false_eq_true, if_false]
 rw [ao (hX1 w), if_pos hroom]
 simp only [Bool.not_false, if_true]
 rw [ao hX2]
 cases base with
 | none => obtain rfl := hw1 rfl; rfl
 | some a =>
  simp only
  rw [ao (hst a rfl)]
  rfl)
theorem sW (hu : P.underlying t = some (.slice el)) (hu' : (∃ e, P.underlying t' = some (.slice e)) ∨ P.underlying t' = some .string) (hi : P.info? el = some inf) (hz : inf.zero = some z) (hb : inf.bytes ≤ 0x10000) (hX1 : ∀ w', (Builtin.lenOf X).run P w' = .ok n w') (hX2 : ∀ w', w'.heap = w.heap → (Builtin.firstCells inf.size n X).run P w' = .ok news.toArray w') (hO : ∀ w', w'.heap = w.heap → (Builtin.firstCells inf.size sLen (.slice base sLen sCap)).run P w' = .ok olds.toArray w') (hroom : ¬ sLen + n ≤ sCap) (hs : sLen + n ≤ 0x10000) :
  ∃ newCap, sLen + n ≤ newCap ∧ (Builtin.append_ #[t, t'] ty #[.slice base sLen sCap, X]).run P w = .ok (.slice (some ⟨w.heap.size, 0, none⟩) (sLen + n) newCap) { w with heap := w.heap.push (.cells (olds ++ news ++ (List.replicate (newCap - (sLen + n)) z.cells.toList).flatten).toArray el (0, 0)), drawn := w.drawn + 1 } := by
 refine ⟨(Question.appendCap (sLen + n) sCap el).cut (w.tape w.drawn (.appendCap (sLen + n) sCap el)), by simp [Question.cut], ?_⟩
 generalize hC : (Question.appendCap (sLen + n) sCap el).cut (w.tape w.drawn (.appendCap (sLen + n) sCap el)) = newCap
 have hch : (choose (.appendCap (sLen + n) sCap el)).run P w = .ok newCap { w with drawn := w.drawn + 1 } := by
  rw [← hC]; rfl
 have hnx := zX (sLen + n) sCap (by omega)
 have ht : ∀ w, (typeInfo el).run P w = .ok inf w := fun w => by simp [typeInfo, hi]
 have h1 : ¬ (((sLen + n : Nat) : Int) > IntKind.i64.max ∧ (False ∨ inf.bytes = 0)) := by
  have : IntKind.i64.max = 9223372036854775807 := rfl
  omega
 have h2 : ¬ (Builtin.nextslicecap (sLen + n) sCap * inf.bytes > 2 ^ 48) := by
  have : Builtin.nextslicecap (sLen + n) sCap * inf.bytes ≤ (4 * 0x10000 + 4000) * 0x10000 := Nat.mul_le_mul (by omega) hb
  omega
 unfold Builtin.append_
 simp only [List.getElem?_toArray, List.getElem?_cons_zero, List.getElem?_cons_succ]
 rw [ao (fo hu)]
 simp only
 rw [ao (bH hi)]
 rcases hu' with ⟨e', hu'⟩ | hu' <;> (
 rw [ao (fo hu')]
 rw [ao (a := false) (w' := w) rfl]
 simp only [Bool.false_eq_true, if_false]
 rw [ao (hX1 w), if_neg hroom]
 rw [ao (ht w), if_neg h1]
 rw [ao (ht w), if_neg h2]
 rw [ao hch, ao (ht _), ao (wk _ _), ao (hO { w with drawn := w.drawn + 1 } rfl)]
 simp only [Bool.not_false, if_true]
 rw [ao (hX2 { w with drawn := w.drawn + 1 } rfl), ao (jN hi hz _)]
 unfold Builtin.zeroCells
 rw [nt]
 simp [newRow, newObj]
 rfl)
end
theorem D8 (hr : Rel w0 T θ s w) : Rel w0 T θ s { w with drawn := w.drawn + 1 } := ⟨hr.os, hr.tape, hr.output, hr.size, hr.frame, hr.num, hr.new, hr.inj, hr.mem⟩
theorem sX {xs ys : List V} (h : xs.all cz = true) (h' : ys.all cz = true) : (xs ++ ys).all cz = true := by rw [List.all_append, h, h']; rfl
theorem qO {xs : List V} (h : xs.all cz = true) (n : Nat) : (xs.drop n).all cz = true := by
 rw [List.all_eq_true] at h ⊢
 exact fun x hx => h x (List.mem_of_mem_drop hx)
theorem ur {xs : List V} (h : xs.all cz = true) (n : Nat) : (xs.take n).all cz = true := by
 rw [List.all_eq_true] at h ⊢
 exact fun x hx => h x (List.mem_of_mem_take hx)
theorem qq {n sz : Nat} {cs : List V} {ys tl : List Value} {el newCap : Nat} (h : kN sz cs n s = .ok v s') (hr : Rel w0 T θ s w) (hv : fy θ cs ys) (hc : cs.all cz = true) (hlen : (ys ++ tl).length = newCap * sz) (hn : n ≤ newCap) : n ≤ 0x10000 ∧ ∃ θ', Rv θ' v (.slice (some ⟨w.heap.size, 0, none⟩) n newCap) ∧ fK w0 T θ s θ' s' { w with heap := w.heap.push (.cells (ys ++ tl).toArray el (0, 0)), drawn := w.drawn + 1 } := by
 unfold kN at h
 obtain ⟨h1, h⟩ := dC h
 unfold fG at h
 cases h
 exact ⟨nB h1, _, ⟨_, Th.eN .., rfl, fun _ => hn⟩, (D8 hr).alloc (o := .grow sz cs) (a := 0) (c := newCap) ⟨[], ys, tl, el, by simp, rfl, hv, hc, hlen⟩⟩
theorem D6 {x y : Operand} {t t' el : Nat} {inf : TypeInfo} {z : Value} (h : xW (z.cells.toList.map dQ).length (z.cells.toList.map dQ) (cX x) (cX y) F e s = .ok v s') (hx : RX θ e ρ x) (hy : RX θ e ρ y) (hr : Rel w0 T θ s w) (hu : P.underlying t = some (.slice el)) (hu' : (∃ e, P.underlying t' = some (.slice e)) ∨ P.underlying t' = some .string) (hi : P.info? el = some inf) (hz : inf.zero = some z) (hb : inf.bytes ≤ 0x10000) (hlen : (z.cells.toList.map dQ).length = inf.size) :
  Ends P w0 T θ s v s' ((execOp ρ ⟨dst, .call ⟨.builtin .append, #[x, y], #[t, t']⟩, ty, pos, af, g⟩).run P w) := by
 have hsz : z.cells.size = inf.size := by rw [← hlen]; simp
 rw [hlen] at h
 have fin : ∀ θ' X w1, Rv θ' v X → fK w0 T θ s θ' s' w1 → (Builtin.append_ #[t, t'] ty #[ρ x, ρ y]).run P w = .ok X w1 → Ends P w0 T θ s v s' ((execOp ρ ⟨dst, .call ⟨.builtin .append, #[x, y], #[t, t']⟩, ty, pos, af, g⟩).run P w) := fun θ' X w1 hv hp hrun => by
  refine .inl ⟨θ', X, w1, fk ?_, hv, hp⟩
  have e1 : (#[x, y] : Array Operand).map ρ = #[ρ x, ρ y] := by simp
  rw [e1]
  simp only [builtin]
  rw [ao hrun]; rfl
 have repl : ∀ n : Nat, ((List.replicate n z.cells.toList).flatten).length = n * inf.size := fun n => by rw [← hsz]; simp
 unfold xW at h
 -- what is appended
 obtain ⟨k, new, news, h1, X1, N1, N2, N3, X2⟩ : ∃ k new news, _ ∧ (∀ w', (Builtin.lenOf (ρ y)).run P w' = .ok k w') ∧ fy θ new news ∧ new.all cz = true ∧ news.length = k * inf.size ∧ ∀ j, j ≤ k → ∀ w', w'.heap = w.heap → (Builtin.firstCells inf.size j (ρ y)).run P w' = .ok (news.take (j * inf.size)).toArray w' :=
  tP h (hy _ rfl fun e0 => by rw [e0] at h; cases h) hr
 have X2 : ∀ w', w'.heap = w.heap → (Builtin.firstCells inf.size k (ρ y)).run P w' = .ok news.toArray w' := fun w' hw => by
  rw [X2 k (Nat.le_refl _) w' hw, List.take_of_length_le (by omega)]
 clear h
 split at h1
 ·-- nil
  rename_i hex
  obtain ⟨hX, _⟩ := hx _ hex nofun
  cases hk : Nat.beq k 0 with
  | true =>
   rw [hk] at h1
   obtain rfl := nE hk
   cases h1
   refine fin θ (.slice none 0 0) w ⟨rfl, rfl⟩ hr.post ?_
   rw [hX]
   exact qM hu hu' hi X1 (X2 w rfl) (Nat.le_refl _) (fun a ha => by cases ha) (fun _ => rfl)
  | false =>
   rw [hk] at h1
   have hk := Nat.ne_of_beq_eq_false hk
   have hsmall : k ≤ 0x10000 := by
    unfold kN at h1
    exact nB (dC h1).1
   obtain ⟨newCap, hC, hrun⟩ := sW (ty := ty) (base := none) (sLen := 0) (sCap := 0) (olds := []) hu hu' hi hz hb X1 X2 (fun w' _ => rfl) (by omega) (by omega)
   rw [Nat.zero_add] at hC hrun
   obtain ⟨_, θ', hv, hp⟩ := qq (el := el) (newCap := newCap) (tl := (List.replicate (newCap - k) z.cells.toList).flatten) h1 hr N1 N2 (by rw [List.length_append, N3, repl, ← Nat.add_mul]; congr 1; omega) hC
   refine fin θ' _ _ hv hp ?_
   rw [hX, hrun, List.nil_append]
 ·-- known room
  rename_i r off len cap hex
  obtain ⟨pl, hp, hX, _⟩ := hx _ hex nofun
  cases hf : Nat.ble (Nat.add len k) cap with
  | true =>
   rw [hf] at h1
   have hf : len + k ≤ cap := nB hf
   obtain ⟨s1, w1, hk, hn, hr', hst⟩ := jP (P := P) (show lb r (off + len * inf.size) new s (fun s => R.ok (.sl r off (Nat.add len k) cap true) s) = .ok v s' from h1) hr hp N1 N2
   cases hk
   refine fin θ (.slice (some ⟨pl.b, pl.a + off, none⟩) (len + k) cap) w1 ⟨pl, hp, rfl, nofun⟩ ⟨fun _ _ => rfl, by rw [hn]; exact Nat.le_refl _, θ.le_refl, hr'⟩ ?_
   rw [hX]
   exact qM hu hu' hi X1 (X2 w rfl) hf (fun a ha => by cases ha; rw [dy, Nat.add_assoc]; exact hst) (fun h => by cases h)
  | false =>
   rw [hf] at h1
   have hf : ¬ len + k ≤ cap := fun h' => by rw [show Nat.ble (Nat.add len k) cap = true from Nat.ble_eq_true_of_le h'] at hf; cases hf
   obtain ⟨cs, mk, h2, hm⟩ := eW (show iC cg (bQ r s) (fun cs _ => jO (Nat.mul len inf.size) (gF off cs) fun vM => kN inf.size (j9 vM new) (Nat.add len k) s) = .ok v s' from h1)
   clear h1
   rw [fj] at h2
   obtain ⟨h3, h4⟩ := ia h2
   obtain ⟨hn, hd, ys, tl, ct, L⟩ := hr.tS hp hm
   have hl := L.vs.length
   have h3 : len * inf.size ≤ (cs.drop off).length := h3
   rw [List.length_drop] at h3
   have hsmall : len + k ≤ 0x10000 := by
    unfold kN at h4
    exact nB (dC h4).1
   have hO : ∀ w', w'.heap = w.heap → (Builtin.firstCells inf.size len (.slice (some ⟨pl.b, pl.a + off, none⟩) len cap)).run P w' = .ok ((ys.drop off).take (len * inf.size)).toArray w' := fun w' hw => by
    show (loadCells _ (len * inf.size)).run P w' = _
    by_cases h0 : len * inf.size = 0
    ·rw [h0]; simp [loadCells, loadCellsFrom]
    ·exact (uX L hw).load (by omega)
   obtain ⟨newCap, hC, hrun⟩ := sW (ty := ty) hu hu' hi hz hb X1 X2 hO hf hsmall
   have ho : ((ys.drop off).take (len * inf.size)).length = len * inf.size := by rw [List.length_take, List.length_drop]; omega
   rw [gX] at h4
   obtain ⟨_, θ', hv, hpp⟩ := qq (el := el) (newCap := newCap) (tl := (List.replicate (newCap - (len + k)) z.cells.toList).flatten) h4 hr (((L.vs.drop off).take (len * inf.size)).app N1) (sX (ur (qO L.one _) _) N2) (by rw [List.length_append, List.length_append, ho, N3, repl, ← Nat.add_mul, ← Nat.add_mul]; congr 1; omega) hC
   refine fin θ' _ _ hv hpp ?_
   rw [hX]
   exact hrun
 ·-- unknown room
  rename_i r off len cap hex
  obtain ⟨pl, hp, hX, hinv⟩ := hx _ hex nofun
  have hinv := hinv rfl
  simp only [cdF] at hX
  cases hk : Nat.beq k 0 with
  | true =>
   rw [hk] at h1
   obtain rfl := nE hk
   have hnews : news = [] := List.eq_nil_of_length_eq_zero (by omega)
   subst hnews
   cases h1
   refine fin θ _ w ⟨pl, hp, rfl, fun _ => hinv⟩ hr.post ?_
   rw [hX]
   exact qM hu hu' hi X1 (X2 w rfl) (by omega) (fun a ha => by simp [storeCells]) (fun h => by cases h)
  | false =>
   rw [hk] at h1
   simp only [cdF] at h1
   have hk := Nat.ne_of_beq_eq_false hk
   unfold Bg at h1
   split at h1
   ·rename_i sz' cs hG
    obtain ⟨hb1, h1'⟩ := dC h1
    clear h1
    rw [Bool.and_eq_true, Bool.and_eq_true] at hb1
    obtain rfl := nE hb1.1.1
    have hoff : off = cap * inf.size := nE hb1.1.2
    have hpos := nB hb1.2
    replace h1' : (bif Nat.ble (Nat.add (Nat.add off (Nat.mul len inf.size)) (Nat.mul k inf.size)) (qj cs) then zm r (Nat.add off (Nat.mul len inf.size)) new (.sl r off (Nat.add len k) cap false) s
     else bif Nat.beq (Nat.add off (Nat.mul len inf.size)) (qj cs) then kN inf.size (j9 (gF off cs) new) (Nat.add len k) (fx r .no s) else cg) = .ok v s' := h1'
    have hnn : bQ r s ≠ .no := by rw [hG]; exact nofun
    obtain ⟨pl', ob, q1, q2, q3⟩ := hr.mem r hnn
    rw [hp] at q1
    obtain rfl := oI q1
    rw [hG] at q3
    obtain ⟨hd, ys, tl, ct, rfl, e1, e2, e3, e4⟩ := q3
    have hl := e2.length
    cases hf : Nat.ble (Nat.add (Nat.add off (Nat.mul len inf.size)) (Nat.mul k inf.size)) (qj cs) with
    | true =>
     rw [hf] at h1'
     rw [mV] at hf
     have hf : off + len * inf.size + k * inf.size ≤ cs.length := nB hf
     obtain ⟨s1, w1, hkk, hn, hr', hst⟩ := jP (P := P) (show lb r (off + len * inf.size) new s (fun s => R.ok (.sl r off (Nat.add len k) cap false) s) = .ok v s' from h1') hr hp N1 N2
     cases hkk
     have hroom : len + k + cap ≤ pl.c := by
      rw [List.length_append] at e4
      have h5 : (cap + len + k) * inf.size ≤ pl.c * inf.size := by rw [Nat.add_mul, Nat.add_mul]; omega
      have := Nat.le_of_mul_le_mul_right h5 hpos
      omega
     refine fin θ (.slice (some ⟨pl.b, pl.a + off, none⟩) (len + k) (pl.c - cap)) w1 ⟨pl, hp, rfl, fun _ => hroom⟩ ⟨fun _ _ => rfl, by rw [hn]; exact Nat.le_refl _, θ.le_refl, hr'⟩ ?_
     rw [hX]
     exact qM hu hu' hi X1 (X2 w rfl) (by omega) (fun a ha => by cases ha; rw [dy, Nat.add_assoc]; exact hst) (fun h => by cases h)
    | false =>
     rw [hf] at h1'
     obtain ⟨hb2, h1⟩ := dC (show (bif Nat.beq (Nat.add off (Nat.mul len inf.size)) (qj cs) then kN inf.size (j9 (gF off cs) new) (Nat.add len k) (fx r .no s) else cg) = .ok v s' from h1')
     rw [mV] at hb2
     have hend : off + len * inf.size = cs.length := nE hb2
     rw [gX, fj] at h1
     have hsmall : len + k ≤ 0x10000 := by
      unfold kN at h1
      exact nB (dC h1).1
     have hrd := hr.drop (r := r)
     have L : uw θ w pl cs (.grow inf.size) hd ys tl ct := ⟨q2, e1, e2, e3, fun cs' ys' a1 a2 a3 => ⟨hd, ys', tl, ct, rfl, e1, a1, a2, by rw [List.length_append] at e4 ⊢; omega⟩⟩
     by_cases hroom : len + k ≤ pl.c - cap
     ·unfold kN fG at h1
      obtain ⟨_, h1⟩ := dC h1
      cases h1
      have h5 : (cap + len + k) * inf.size ≤ pl.c * inf.size := Nat.mul_le_mul_right _ (by omega)
      rw [Nat.add_mul, Nat.add_mul] at h5
      rw [List.length_append] at e4
      have hst := run_storeCells_at (P := P) pl.b (pl.a + (off + len * inf.size)) ct news 0 _ w q2 (by simp [e1, N3]; omega) (N1.one N2)
      have ecs : (hd ++ (ys ++ tl)).toArray.toList.take (pl.a + (off + len * inf.size) + 0) ++ news ++ (hd ++ (ys ++ tl)).toArray.toList.drop (pl.a + (off + len * inf.size) + 0 + news.length) = (hd ++ ys.take off) ++ ((ys.drop off ++ news) ++ tl.drop (k * inf.size)) := by
       simp only [List.toList_toArray, Nat.add_zero, hend, hl]
       rw [← e1, Nat.add_assoc, List.take_length_add_append, List.drop_length_add_append, List.take_left', N3]
       ·rw [List.drop_length_add_append]
        simp [List.append_assoc, List.take_append_drop, ← List.append_assoc (ys.take off)]
       ·rfl
      generalize hw : w.setRow pl.b _ = w1 at hst
      have hnew := hrd.Di (pl := ⟨pl.b, pl.a + off, pl.c - cap⟩) (o := .grow inf.size (cs.drop off ++ new)) (w' := w1) (fun r' pl' hr' hp' hbb => by
        by_cases e0 : r = r'
        ·subst e0; rw [gV] at hr'; exact hr' rfl
        ·rw [eZ _ s e0] at hr'
         exact e0 (hr.inj r r' pl pl' hnn hr' hp hp' hbb.symm)) (hr.new r pl hnn hp).1 (by subst hw; rfl) (by subst hw; rfl) (by subst hw; rfl) (by subst hw; simp [World.setRow]) (by subst hw; simpa [World.setRow] using (hr.new r pl hnn hp).2) (by subst hw; exact setRow_heap w _ _ _ _ _ q2) (fun j _ hj => by subst hw; exact setRow_other w _ j _ hj)
        ⟨hd ++ ys.take off, ys.drop off ++ news, tl.drop (k * inf.size), ct, by rw [ecs], by rw [List.length_append, List.length_take, e1]; show pl.a + min off ys.length = pl.a + off; omega, (e2.drop off).app N1, sX (qO e3 _) N2, by
         simp only [List.length_append, List.length_drop, N3]
         rw [Nat.sub_mul]
         omega⟩
      refine fin _ (.slice (some ⟨pl.b, pl.a + off, none⟩) (len + k) (pl.c - cap)) w1 ⟨_, Th.eN .., by simp, fun _ => by show len + k + 0 ≤ pl.c - cap; omega⟩ ⟨hnew.ext, hnew.n, hnew.le, hnew.rel⟩ ?_
      rw [hX]
      exact qM hu hu' hi X1 (X2 w rfl) hroom (fun a ha => by cases ha; rw [dy, Nat.add_assoc]; exact hst) (fun h => by cases h)
     ·have hO : ∀ w', w'.heap = w.heap → (Builtin.firstCells inf.size len (.slice (some ⟨pl.b, pl.a + off, none⟩) len (pl.c - cap))).run P w' = .ok (ys.drop off).toArray w' := fun w' hw => by
       show (loadCells _ (len * inf.size)).run P w' = _
       have ht : (ys.drop off).take (len * inf.size) = ys.drop off := List.take_of_length_le (by rw [List.length_drop]; omega)
       rw [← ht]
       by_cases h0 : len * inf.size = 0
       ·rw [h0]; simp [loadCells, loadCellsFrom]
       ·exact (uX L hw).load (by omega)
      obtain ⟨newCap, hC, hrun⟩ := sW (ty := ty) hu hu' hi hz hb X1 X2 hO hroom hsmall
      obtain ⟨_, θ', hv, hpp⟩ := qq (el := el) (newCap := newCap) (tl := (List.replicate (newCap - (len + k)) z.cells.toList).flatten) h1 hrd ((e2.drop off).app N1) (sX (qO e3 _) N2) (by rw [List.length_append, List.length_append, List.length_drop, N3, repl]; rw [show ys.length - off = len * inf.size by omega, ← Nat.add_mul, ← Nat.add_mul]; congr 1; omega) hC
      refine fin θ' _ _ hv ⟨hpp.ext, hpp.n, hpp.le, hpp.rel⟩ ?_
      rw [hX]
      exact hrun
   ·cases h1
 ·cases h1
end Ci
namespace Ci
open Go
variable {P : Program} {w0 : World} {T : Nat → Prop} {θ : Th} {s s' : St} {w : World} {e : Env} {ρ : Operand → Value} {F : Fs} {v : V}
variable {dst : Option Tmp} {ty : TypeId} {pos : String} {af : Array Edge} {g : Option (Nat × Bool)}
theorem E1 (x y : Operand) : (#[x, y] : Array Operand).map ρ = #[ρ x, ρ y] := by simp
theorem E2 (x : Operand) : (#[x] : Array Operand).map ρ = #[ρ x] := by simp
theorem D0 {x y : Operand} {t t' el : Nat} {inf : TypeInfo} {tys : List Nat} (h : xU inf.size (cX x) (cX y) F e s = .ok v s') (hx : RX θ e ρ x) (hy : RX θ e ρ y) (hr : Rel w0 T θ s w) (hu : P.underlying t = some (.slice el)) (hi : P.info? el = some inf) :
  Ends P w0 T θ s v s' ((execOp ρ ⟨dst, .call ⟨.builtin .copy, #[x, y], (t :: tys).toArray⟩, ty, pos, af, g⟩).run P w) := by
 have fin : ∀ X w1, Rv θ v X → fK w0 T θ s θ s' w1 → (Builtin.copy_ (t :: tys).toArray ty #[ρ x, ρ y]).run P w = .ok X w1 → Ends P w0 T θ s v s' ((execOp ρ ⟨dst, .call ⟨.builtin .copy, #[x, y], (t :: tys).toArray⟩, ty, pos, af, g⟩).run P w) := fun X w1 hv hp hrun => by
  refine .inl ⟨θ, X, w1, fk ?_, hv, hp⟩
  rw [E1]
  simp only [builtin]
  rw [ao hrun]; rfl
 unfold xU at h
 obtain ⟨k, new, news, h1, X1, N1, N2, N3, X2⟩ : ∃ k new news, _ ∧ (∀ w', (Builtin.lenOf (ρ y)).run P w' = .ok k w') ∧ fy θ new news ∧ new.all cz = true ∧ news.length = k * inf.size ∧ ∀ j, j ≤ k → ∀ w', w'.heap = w.heap → (Builtin.firstCells inf.size j (ρ y)).run P w' = .ok (news.take (j * inf.size)).toArray w' :=
  tP h (hy _ rfl fun e0 => by rw [e0] at h; cases h) hr
 clear h
 have gen : ∀ (base : Option Addr) (dLen c : Nat) (w1 : World), (∀ a, base = some a → (storeCells a (news.take (min k dLen * inf.size))).run P w = .ok () w1) → (base = none → w1 = w) → (Builtin.copy_ (t :: tys).toArray ty #[.slice base dLen c, ρ y]).run P w = .ok (.int .i64 ((min k dLen : Nat) : Int)) w1 := fun base dLen c w1 hst hn => by
  unfold Builtin.copy_
  simp only [List.getElem?_toArray, List.getElem?_cons_zero, List.getElem?_cons_succ]
  rw [ao (fo hu)]
  simp only
  rw [ao (X1 w), ao (bH hi)]
  rw [show Nat.min k dLen = min k dLen from rfl, ao (X2 _ (Nat.min_le_left _ _) w rfl)]
  cases base with
  | none => obtain rfl := hn rfl; rfl
  | some a =>
   simp only
   rw [ao (hst a rfl)]; rfl
 split at h1
 ·rename_i c hex
  obtain ⟨hX, _⟩ := hx _ hex nofun
  cases h1
  refine fin (.int .i64 0) w rfl hr.post ?_
  rw [hX]
  have := gen none 0 c w (fun a ha => by cases ha) (fun _ => rfl)
  rwa [Nat.min_zero] at this
 ·rename_i hex
  obtain ⟨a, c, hX⟩ := hx _ hex nofun
  cases h1
  refine fin (.int .i64 0) w rfl hr.post ?_
  rw [hX]
  have := gen (some a) 0 c w (fun a ha => by simp [storeCells]) (fun _ => rfl)
  rwa [Nat.min_zero] at this
 ·rename_i r off len c kn hex
  obtain ⟨pl, hp, hX, _⟩ := hx _ hex nofun
  rw [kY] at h1
  obtain ⟨s1, w1, hk, hn, hr', hst⟩ := jP (P := P) h1 hr hp (N1.take _) (ur N2 _)
  cases hk
  refine fin (.int .i64 ((min k len : Nat) : Int)) w1 (by rw [pr]; rfl) ⟨fun _ _ => rfl, by rw [hn]; exact Nat.le_refl _, θ.le_refl, hr'⟩ ?_
  rw [hX]
  refine gen _ len _ w1 (fun a ha => ?_) (fun h => by cases h)
  cases ha
  rw [pr] at hst
  exact hst
 ·cases h1
theorem Cn {x : Operand} {t el : Nat} {inf : TypeInfo} {z : Value} (h : uJ (z.cells.toList.map dQ) (cX x) F e s = .ok v s') (hx : RX θ e ρ x) (hr : Rel w0 T θ s w) (hu : P.underlying t = some (.slice el)) (hi : P.info? el = some inf) (hz : inf.zero = some z) (hc : (z.cells.toList.map dQ).all cz = true) :
  Ends P w0 T θ s v s' ((execOp ρ ⟨dst, .call ⟨.builtin .clear, #[x], #[t]⟩, ty, pos, af, g⟩).run P w) := by
 have fin : ∀ w1, v = .ix [] → fK w0 T θ s θ s' w1 → (Builtin.clear_ #[t] ty #[ρ x]).run P w = .ok (.tuple #[]) w1 → Ends P w0 T θ s v s' ((execOp ρ ⟨dst, .call ⟨.builtin .clear, #[x], #[t]⟩, ty, pos, af, g⟩).run P w) := fun w1 hv hp hrun => by
  subst hv
  refine .inl ⟨θ, .tuple #[], w1, fk ?_, ⟨[], rfl, rfl⟩, hp⟩
  rw [E2]
  simp only [builtin]
  rw [ao hrun]; rfl
 unfold uJ at h
 split at h
 ·rename_i n c hex
  obtain ⟨hX, _⟩ := hx _ hex nofun
  cases h
  refine fin w rfl hr.post ?_
  rw [hX]
  simp [Builtin.clear_, fo hu]
 ·rename_i hex
  obtain ⟨a, c, hX⟩ := hx _ hex nofun
  cases h
  refine fin w rfl hr.post ?_
  rw [hX]
  simp [Builtin.clear_, fo hu]
 ·rename_i r off len c kn hex
  obtain ⟨pl, hp, hX, _⟩ := hx _ hex nofun
  obtain ⟨rz1, rz2⟩ := fy.rep (θ := θ) (jm hc) hc len
  obtain ⟨s1, w1, hk, hn, hr', hst⟩ := jP (P := P) h hr hp rz1 rz2
  cases hk
  by_cases h0 : len = 0
  ·subst h0
   have : w1 = w := by
    have e1 : (storeCells ⟨pl.b, pl.a + off, none⟩ ((List.replicate 0 z.cells.toList).flatten)).run P w = .ok () w := by simp [storeCells]
    rw [e1] at hst
    cases hst; rfl
   subst this
   refine fin w1 rfl ⟨fun _ _ => rfl, by rw [hn]; exact Nat.le_refl _, θ.le_refl, hr'⟩ ?_
   rw [hX]
   simp [Builtin.clear_, fo hu]
  ·refine fin w1 rfl ⟨fun _ _ => rfl, by rw [hn]; exact Nat.le_refl _, θ.le_refl, hr'⟩ ?_
   rw [hX]
   obtain ⟨m, rfl⟩ : ∃ m, len = m + 1 := ⟨len - 1, by omega⟩
   unfold Builtin.clear_
   simp only [List.getElem?_toArray, List.getElem?_cons_zero]
   rw [ao (fo hu)]
   simp only
   rw [ao (jN hi hz w)]
   unfold Builtin.zeroCells
   rw [nt, ao hst]
   rfl
 ·cases h
theorem re : ∀ {xs : List V} {ys : List Value} {n : Nat}, sd xs = some n → fy θ xs ys → ∃ ns : List Int, ys = ns.map (Value.int .u8) ∧ n < 256 ^ xs.length ∧ ns.map (fun n => UInt8.ofNat n.toNat) = bytesOf xs.length n
 | [], ys, n, h, hv => by
  cases hv
  obtain rfl := oI h
  exact ⟨[], rfl, by decide, rfl⟩
 | x :: xs, ys, n, h, ⟨y, zs, h1, h2, h3⟩ => by
  have h' : (Option.rec none (fun b => Option.rec none (fun n => some (Nat.add b (Nat.mul 256 n))) (sd xs)) (byteOf x) : Option Nat) = some n := h
  cases hb : byteOf x with
  | none => rw [hb] at h'; cases h'
  | some b =>
   rw [hb] at h'
   cases hs : sd xs with
   | none => rw [hs] at h'; cases h'
   | some m =>
    rw [hs] at h'
    obtain rfl := oI h'
    obtain ⟨ns, e1, e2, e3⟩ := re hs h3
    unfold byteOf at hb
    split at hb
    ·rename_i c
     cases hc : Nat.ble c 255 with
     | false => rw [hc] at hb; cases hb
     | true =>
      rw [hc] at hb
      obtain rfl := oI hb
      have hc := nB hc
      have h2 : y = .int .u8 (.ofNat c) := h2
      refine ⟨.ofNat c :: ns, by rw [h1, h2, e1]; rfl, ?_, ?_⟩
      ·show c + 256 * m < 256 ^ (xs.length + 1)
       rw [Nat.pow_succ]; omega
      ·show UInt8.ofNat (Int.ofNat c).toNat :: ns.map (fun n => UInt8.ofNat n.toNat) = bytesOf (xs.length + 1) (c + 256 * m)
       rw [e3, bytesOf]
       have a1 : (c + 256 * m) % 256 = c := by omega
       have a2 : (c + 256 * m) / 256 = m := by omega
       rw [a1, a2]; rfl
    ·cases hb
theorem rm : ∀ (ns : List Int) (b : ByteArray), (ns.foldl (fun r n => r.push (UInt8.ofNat n.toNat)) b).data.toList = b.data.toList ++ ns.map (fun n => UInt8.ofNat n.toNat)
 | [], b => by simp
 | n :: ns, b => by
  rw [List.foldl_cons, rm ns]
  simp [ByteArray.push]
theorem D5 {x : Operand} {t d el : Nat} (h : tx (cX x) F e s = .ok v s') (hx : RX θ e ρ x) (hr : Rel w0 T θ s w) (ht : P.underlying t = some (.slice el)) (hel : P.underlying el = some (.int .u8)) (hd : P.underlying d = some .string) : Ends P w0 T θ s v s' ((execOp ρ ⟨dst, .convert t d x, ty, pos, af, g⟩).run P w) := by
 have fin : ∀ X a n c, ρ x = .slice a n c → s = s' → Rv θ v X → (Conv.bytesToString (.slice a n c)).run P w = .ok X w → Ends P w0 T θ s v s' ((execOp ρ ⟨dst, .convert t d x, ty, pos, af, g⟩).run P w) := fun X a n c hX hs hv hrun => by
  subst hs
  refine .val hr hv ?_
  have h2 : (convert t d (ρ x)).run P w = .ok X w := by
   rw [hX]
   unfold convert
   rw [ao (fo ht), ao (fo hd)]
   simp only
   rw [ao (fo hel)]
   exact hrun
  simp only [execOp]
  rw [ao h2]; rfl
 unfold tx at h
 split at h
 ·rename_i r off len cap kn hex
  obtain ⟨pl, hp, hX, _⟩ := hx _ hex nofun
  obtain ⟨cs, mk, h1, hm⟩ := eW h
  rw [fj] at h1
  obtain ⟨h2, h3⟩ := ia h1
  obtain ⟨n, h4, h5⟩ := jr (K := fun n => R.ok (.s len n) s) h3
  cases h5
  obtain ⟨hn, hd', ys, tl, ct, L⟩ := hr.tS hp hm
  have hl := L.vs.length
  rw [List.length_drop] at h2
  have hv' := (L.vs.drop off).take len
  obtain ⟨ns, e1, e2, e3⟩ := re h4 hv'
  have hlen : ((cs.drop off).take len).length = len := by rw [List.length_take, List.length_drop]; omega
  rw [hlen] at e2 e3
  refine fin (.string (cZ len n)) _ _ _ hX rfl ⟨e2, rfl⟩ ?_
  have hload : (loadCells ⟨pl.b, pl.a + off, none⟩ len).run P w = .ok (ns.map (Value.int .u8)).toArray w := by
   rw [← e1]
   by_cases h0 : len = 0
   ·rw [h0]; simp [loadCells, loadCellsFrom]
   ·exact L.load (by omega)
  rw [run_bytesToString w _ _ _ ns hload]
  congr 2
  apply ByteArray.ext
  apply Array.ext'
  rw [rm, dt, e3]
  rfl
 ·rename_i hex
  obtain ⟨a, c, hX⟩ := hx _ hex nofun
  cases h
  refine fin (.string (cZ 0 0)) _ _ _ hX rfl ⟨by decide, rfl⟩ ?_
  rw [run_bytesToString w a 0 c [] (by simp [loadCells, loadCellsFrom])]
  rfl
 ·rename_i n c hex
  obtain ⟨hX, _⟩ := hx _ hex nofun
  cases h
  refine fin (.string (cZ 0 0)) _ _ _ hX rfl ⟨by decide, rfl⟩ ?_
  simp [Conv.bytesToString]
  rfl
 ·cases h
theorem lM {o : O} {K : List (V × V × Nat) → Nat → R} (h : tQ cg o K = .ok v s') : ∃ es c, o = .map es c ∧ K es c = .ok v s' := by
 unfold tQ at h
 split at h
 ·exact ⟨_, _, rfl, h⟩
 ·cases h
theorem sb {x : V} {X : Value} {K : Option df → List (V × V × Nat) → Nat → R} (h : ti cg x s K = .ok v s') (hv : Rv θ x X) (hr : Rel w0 T θ s w) :
  (X = .map none ∧ K none [] 0 = .ok v s') ∨ ∃ r pl es c fs, X = .map (some pl.b) ∧ θ r = some pl ∧ bQ r s = .map es c ∧ K (some r) es c = .ok v s' ∧ w.heap[pl.b]? = some (.map fs c) ∧ Rm θ es fs.toList := by
 unfold ti at h
 split at h
 ·exact .inl ⟨hv.1, h⟩
 ·obtain ⟨es, c, ho, h1⟩ := lM h
  obtain ⟨pl, hp, rfl⟩ := hv
  obtain ⟨pl', ob, h2, h3, h4⟩ := hr.mem _ (by rw [ho]; exact nofun)
  rw [hp] at h2
  obtain rfl := oI h2
  rw [ho] at h4
  obtain ⟨fs, rfl, h5⟩ := h4
  exact .inr ⟨_, pl, es, c, fs.toArray, rfl, hp, ho, h1, h3, h5⟩
 ·cases h
inductive vr (P : Program) (kt : Nat) : nF → Prop
 | int {k : IntKind} (h : P.underlying kt = some (.int k)) : vr P kt .int
 | str (h : P.underlying kt = some .string) : vr P kt .str
theorem sy {t : Nat} {K : nF → CO} {c : CO} (h : mz P t K = c) (hc : c ≠ .no) : ∃ kt et q, P.underlying t = some (.map kt et) ∧ vr P kt q ∧ K q = c ∧ rO P t = et := by
 unfold mz at h
 split at h
 ·rename_i kt et hu
  split at h
  ·rename_i k hk; exact ⟨kt, et, _, hu, .int hk, h, by simp [rO, hu]⟩
  ·rename_i hk; exact ⟨kt, et, _, hu, .str hk, h, by simp [rO, hu]⟩
  ·exact absurd h.symm hc
 ·exact absurd h.symm hc
theorem sI {q : nF} {kt : Nat} (hq : vr P kt q) {k : V} {K : Value} (hk : Rv θ k K) : ∀ {es : List (V × V × Nat)} {fs : List MapEntry} {i : Nat} {o : Option (Nat × V)}, qv q k es i = some o → Rm θ es fs →
  ∃ D, P.underlying kt = some D ∧ ∃ o', Instr.findNow D K fs i = some o' ∧ match o, o' with
   | none, none => True
   | some p, some p' => p.1 = p'.1 ∧ Rv θ p.2 p'.2 ∧ i ≤ p.1 ∧ ∃ f, fs[p.1 - i]? = some f ∧ Instr.sameBits 10000 f.key K = true
   | _, _ => False
 | [], fs, i, o, h, hm => by
  cases hm
  obtain rfl := oI h
  cases hq with
  | int hu => exact ⟨_, hu, none, rfl, trivial⟩
  | str hu => exact ⟨_, hu, none, rfl, trivial⟩
 | en :: es, fs, i, o, h, ⟨f, gs, hfs, h1, h2, h3, h4⟩ => by
  subst hfs
  have h' : (Option.rec none (fun b => bif b then some (some (i, en.2.1)) else qv q k es (Nat.succ i)) (mH 200 q k en.1) : Option (Option (Nat × V))) = some o := h
  cases hb : mH 200 q k en.1 with
  | none => rw [hb] at h'; cases h'
  | some b =>
   rw [hb] at h'
   have key : ∃ D, P.underlying kt = some D ∧ Instr.sameNow D K f.key = some b ∧ (b = true → Instr.sameBits 10000 f.key K = true) := by
    cases hq with
    | int hu =>
     refine ⟨_, hu, ?_⟩
     obtain ⟨k1, a, rfl, h5⟩ := j8 (show kS none k _ = some b from hb)
     obtain ⟨k2, c, hc, h6⟩ := j8 h5
     rw [hc] at h1
     cases hkk : B4 k1 k2 with
     | false => rw [hkk] at h6; cases h6
     | true =>
      rw [hkk] at h6
      obtain rfl := sB hkk
      cases h6
      have h1 : f.key = .int k1 c := h1
      have hk : K = .int k1 a := hk
      rw [h1, hk, qw]
      refine ⟨by simp [Instr.sameNow]; rfl, fun hh => ?_⟩
      have : a = c := by simpa using hh
      subst this
      simp [Instr.sameBits]
    | str hu =>
     refine ⟨_, hu, ?_⟩
     obtain ⟨n1, a, rfl, h5⟩ := j7 (show mG none k _ = some b from hb)
     obtain ⟨n2, c, hc, h6⟩ := j7 h5
     rw [hc] at h1
     cases h6
     obtain ⟨ha, hk⟩ := hk
     obtain ⟨hb', h1⟩ := h1
     rw [h1, hk]
     refine ⟨by simp only [Instr.sameNow]; rw [mm ha hb'], fun hh => ?_⟩
     rw [Bool.and_eq_true, Nat.beq_eq, Nat.beq_eq] at hh
     obtain ⟨rfl, rfl⟩ := hh
     simp only [Instr.sameBits]
     rw [mm ha ha]; simp
   obtain ⟨D, hu, hs, hbits⟩ := key
   cases b with
   | true =>
    obtain rfl := oI h'
    exact ⟨D, hu, some (i, f.val), by simp [Instr.findNow, hs], rfl, h2, Nat.le_refl _, f, by simp, hbits rfl⟩
   | false =>
    obtain ⟨D', hu', o', ho', hrel⟩ := sI hq hk h' h4
    rw [hu] at hu'
    obtain rfl := oI hu'
    refine ⟨D, hu, o', by simp [Instr.findNow, hs, ho'], ?_⟩
    cases o with
    | none => cases o' with
     | none => trivial
     | some p' => exact hrel
    | some p => cases o' with
     | none => exact hrel
     | some p' =>
      obtain ⟨a1, a2, a3, f', a4, a5⟩ := hrel
      refine ⟨a1, a2, by omega, f', ?_, a5⟩
      obtain ⟨m, hm⟩ : ∃ m, p.1 - i = m + 1 ∧ p.1 - (i + 1) = m := ⟨p.1 - (i + 1), by omega, rfl⟩
      rw [hm.1, List.getElem?_cons_succ, ← hm.2]; exact a4
end Ci