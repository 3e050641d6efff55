/- The lab. -/
import GoSem.Step
namespace Go.Lab
/-- a piece of a text: a byte, or a text that is not looked into -/
inductive Pc where | b (n : Nat) | tx (i : Nat)
/-- what has been put behind a buffer: a number, how many bytes a text has, a text -/
inductive Ck where | num (k : Nat) | len (s : List Pc) | txt (s : List Pc)
inductive C where
  | bool (b : Bool) | int (k : IntKind) (n : Int) | slen (s : List Pc) | key (it j : Nat) | str (s : List Pc)
  | ptr (a : Option (Nat × Nat)) | sl (a : Option (Nat × Nat)) (len cap : Nat) | so (a : Nat × Nat) (len z : Nat) | slz (b o l z : Nat) | mp (r : Option Nat) | fn (f : FuncId) (cap : List (Nat × Nat)) | nofn | ub (b : Nat) (l : List Ck) | off (l : List Ck)
inductive V1 where | one (c : C) | agg (cs : List C)
inductive V where | v (x : V1) | tup (l : List V1)
inductive AO where | cells (cs : List C) (z : Nat) | map (es : List (C × C)) | iter (m : Nat) (keys : List Int) (ks : List Nat) | dead | ub (e : Nat) (l : List Ck)
inductive Tr (α : Type) where | nil | node (v : Option α) (l r : Tr α)
noncomputable def isNil {α : Type} : List α → Bool | [] => true | _ => false
noncomputable def ifB {α : Type} (c : Bool) (a b : α) : α := Bool.casesOn c b a
noncomputable def Tr.get {α : Type} (t : Tr α) : Nat → Option α :=
  Tr.rec (fun _ => none) (fun v _ _ gl gr k => Bool.rec (Bool.rec (gr (Nat.sub (Nat.div k 2) 1)) (gl (Nat.div k 2)) (Nat.beq (Nat.mod k 2) 1)) v (Nat.beq k 0)) t
noncomputable def Tr.set {α : Type} (a : α) (f : Nat) : Tr α → Nat → Tr α :=
  Nat.rec (fun t _ => t) (fun _ s t k => Tr.rec
    (Bool.rec (Bool.rec (.node none .nil (s .nil (Nat.sub (Nat.div k 2) 1))) (.node none (s .nil (Nat.div k 2)) .nil) (Nat.beq (Nat.mod k 2) 1)) (.node (some a) .nil .nil) (Nat.beq k 0))
    (fun v l r _ _ => Bool.rec (Bool.rec (.node v l (s r (Nat.sub (Nat.div k 2) 1))) (.node v (s l (Nat.div k 2)) r) (Nat.beq (Nat.mod k 2) 1)) (.node (some a) l r) (Nat.beq k 0)) t) f
noncomputable def Tr.put {α : Type} (a : α) (t : Tr α) (k : Nat) : Tr α := Tr.set a (Nat.succ k) t k
abbrev Loc := List (Nat × V)
noncomputable def getL (l : Loc) (x : Nat) (d : Option V) : Option V :=
  List.rec d (fun p _ ih => Bool.rec ih (some p.2) (Nat.beq p.1 x)) l
noncomputable def bitA (m x : Nat) : Bool := Nat.beq (Nat.land (Nat.shiftRight m x) 1) 1
/-- temporaries: those of the region, all others, and which of these count -/
structure En where
  l : Loc
  g : Tr V
  k : Nat
noncomputable def En.get (e : En) (x : Nat) : Option V := getL e.l x (Bool.casesOn (bitA e.k x) none (e.g.get x))

noncomputable def absC : Value → Option C
  | .bool b => some (.bool b)
  | .int k n => some (.int k n)
  | .string s => some (.str (s.data.toList.map fun b => .b b.toNat))
  | .pointer none => some (.ptr none)
  | .slice none 0 0 => some (.sl none 0 0)
  | .map none => some (.mp none)
  | .nilFunc => some .nofn
  | _ => none
noncomputable def absL : List Value → Option (List C)
  | [] => some []
  | v :: l => match absC v, absL l with | some c, some cs => some (c :: cs) | _, _ => none
noncomputable def absV : Value → Option V1
  | .agg cs => (absL cs.toList).map .agg
  | v => (absC v).map .one

section
variable (P : Program)
noncomputable def sizeA (t : TypeId) : Option Nat := (P.info? t).map (·.size)
noncomputable def zeroA (t : TypeId) : Option V1 := match P.info? t with | some i => i.zero.bind absV | none => none
noncomputable def aggA (t : TypeId) : Option Bool := match P.underlying t with | some (.struct _) => some true | some (.array _ _) => some true | some _ => some false | none => none
noncomputable def V1.cells : V1 → List C | .one c => [c] | .agg cs => cs

/-- what an operation comes to -/
inductive Ef where
  | val (v : V) (T : List Nat)
  | new (v : V) (o : AO) (T : List Nat)
  | put (b : Nat) (o : AO) (v : V) (T : List Nat)
  | mov (b : Nat) (o : AO) (v : V) (T : List Nat)
  | stp (b : Nat) (o : AO) (v : V) (T : List Nat)
  | call (f : FuncId) (args : List V)
noncomputable def undefV : V := .tup []
noncomputable def cstA (v : Value) : Option V := match absV v with | some x => some (.v x) | none => (match v with | .tuple vs => ifB (isNil vs.toList) (some undefV) none | _ => none)
noncomputable def evalA (e : En) (x : Operand) : Option V := Operand.casesOn x (fun k => e.get k) cstA (fun _ => none) (fun f => some (.v (.one (.fn f []))))
noncomputable def V.asC (v : V) : Option C := V.casesOn v (fun x => V1.casesOn x some (fun _ => none)) (fun _ => none)
noncomputable def V.as1 (v : V) : Option V1 := V.casesOn v some (fun _ => none)
noncomputable def C.asI (c : C) : Option Int := match c with | .int _ n => some n | _ => none
noncomputable def C.asB (c : C) : Option Bool := match c with | .bool b => some b | _ => none
noncomputable def C.asP (c : C) : Option (Nat × Nat) := match c with | .ptr a => a | _ => none
noncomputable def bindO {α β : Type} (x : Option α) (f : α → Option β) : Option β := Option.casesOn x none f
noncomputable def evalC (e : En) (x : Operand) : Option C := bindO (evalA e x) V.asC
noncomputable def eval1 (e : En) (x : Operand) : Option V1 := bindO (evalA e x) V.as1
noncomputable def evalI (e : En) (x : Operand) : Option Int := bindO (evalC e x) C.asI
noncomputable def evalB (e : En) (x : Operand) : Option Bool := bindO (evalC e x) C.asB
noncomputable def evalP (e : En) (x : Operand) : Option (Nat × Nat) := bindO (evalC e x) C.asP
noncomputable def evalAll (e : En) : List Operand → Option (List V)
  | [] => some []
  | x :: l => bindO (evalA e x) fun v => bindO (evalAll e l) fun vs => some (v :: vs)
noncomputable def splice (cs : List C) (off : Nat) (new : List C) : List C := cs.take off ++ (new ++ cs.drop (off + new.length))
/-- parts into cells -/
noncomputable def fillA (place : Nat → Option (Nat × Nat)) : List C → List (Nat × V1) → Option (List C)
  | cs, [] => some cs
  | cs, (i, v) :: r => match place i with
    | some (off, size) => bif Nat.beq v.cells.length size && Nat.ble (off + size) cs.length then fillA place (splice cs off v.cells) r else none
    | none => none
noncomputable def partsA (t : En) : List (Nat × Operand) → Option (List (Nat × V1))
  | [] => some []
  | p :: l => bindO (eval1 t p.2) fun v => bindO (partsA t l) fun r => some ((p.1, v) :: r)
noncomputable def placesA : List Field → Option (List (Nat × Nat))
  | [] => some []
  | f :: l => match sizeA P f.type, placesA l with | some n, some r => some ((f.offset, n) :: r) | _, _ => none
noncomputable def repC (z : List C) : Nat → List C | 0 => [] | n + 1 => z ++ repC z n
/-- a whole value out of cells -/
noncomputable def partA (t : TypeId) (cs : List C) (off : Nat) : Option V1 :=
  match aggA P t with
  | some true => match sizeA P t with | some n => bif Nat.ble (off + n) cs.length then some (.agg ((cs.drop off).take n)) else none | none => none
  | some false => (cs.drop off).head?.map .one
  | none => none
noncomputable def ltI : Int → Int → Bool
  | .ofNat a, .ofNat b => Nat.blt a b
  | .negSucc _, .ofNat _ => true
  | .ofNat _, .negSucc _ => false
  | .negSucc a, .negSucc b => Nat.blt b a
noncomputable def eqI : Int → Int → Bool
  | .ofNat a, .ofNat b => Nat.beq a b
  | .negSucc a, .negSucc b => Nat.beq a b
  | _, _ => false
noncomputable def ikN : IntKind → Nat | .i8 => 0 | .i16 => 1 | .i32 => 2 | .i64 => 3 | .u8 => 4 | .u16 => 5 | .u32 => 6 | .u64 => 7
noncomputable def cmpI : BinOp → Int → Int → Option C
  | .eql, x, y => some (.bool (eqI x y))
  | .neq, x, y => some (.bool (!eqI x y))
  | .lss, x, y => some (.bool (ltI x y))
  | .leq, x, y => some (.bool (!ltI y x))
  | .gtr, x, y => some (.bool (ltI y x))
  | .geq, x, y => some (.bool (!ltI x y))
  | _, _, _ => none
noncomputable def smallA (n : Int) : Bool := match n with | .ofNat a => Nat.ble a 4611686018427387904 | .negSucc a => Nat.ble a 4611686018427387904
noncomputable def pcEq : Pc → Pc → Bool | .b n, .b m => Nat.beq n m | .tx i, .tx j => Nat.beq i j | _, _ => false
noncomputable def strSame : List Pc → List Pc → Bool | [], [] => true | a :: l, b :: r => pcEq a b && strSame l r | _, _ => false
/-- surely two different texts -/
noncomputable def strDiff : List Pc → List Pc → Bool
  | [], [] => false
  | [], _ :: _ => true
  | _ :: _, [] => true
  | .b n :: l, .b m :: r => Nat.ble n 255 && Nat.ble m 255 && (!Nat.beq n m || strDiff l r)
  | .tx i :: l, .tx j :: r => bif Nat.beq i j then strDiff l r else match l, r with | [], [] => Nat.ble i 1 && Nat.ble j 1 | _, _ => false
  | .b n :: _, .tx _ :: _ => Nat.ble n 96
  | .tx _ :: _, .b n :: _ => Nat.ble n 96
noncomputable def strEqA (s t : List Pc) : Option Bool := bif strSame s t then some true else bif strDiff s t then some false else none
noncomputable def bytesLt : List Pc → List Pc → Option Bool
  | [], [] => some false
  | [], .b _ :: _ => some true
  | .b _ :: _, [] => some false
  | .b n :: l, .b m :: r => bif Nat.ble n 255 && Nat.ble m 255 then (bif Nat.beq n m then bytesLt l r else some (Nat.blt n m)) else none
  | _, _ => none
noncomputable def pureBytes : List Pc → Bool | [] => true | .b _ :: l => pureBytes l | _ => false
noncomputable def lenMax : List Pc → Nat | [] => 0 | .b _ :: l => lenMax l + 1 | .tx _ :: l => lenMax l + 19
noncomputable def wrapA (k : IntKind) (n : Int) : Int := bif smallA n && Nat.beq (ikN k) 3 then n else k.wrap n
noncomputable def binInt (op : BinOp) (k : IntKind) (x y : Int) : Option C :=
  match op with
  | .add => some (.int k (wrapA k (x + y)))
  | .sub => some (.int k (wrapA k (x - y)))
  | .mul => some (.int k (wrapA k (x * y)))
  | .rem => bif eqI y 0 then none else some (.int k (x.tmod y))
  | op => cmpI op x y
noncomputable def binLen (op : BinOp) (s : List Pc) (y : Int) : Option C :=
  match op, y with
  | .gtr, .ofNat n => bif Nat.ble (lenMax s) n then some (.bool false) else none
  | _, _ => none
noncomputable def optB : Option Bool → Option C | some b => some (.bool b) | none => none
noncomputable def optN : Option Bool → Option C | some b => some (.bool (!b)) | none => none
noncomputable def binStr (op : BinOp) (x y : List Pc) : Option C :=
  match op with
  | .eql => optB (strEqA x y)
  | .neq => optN (strEqA x y)
  | .geq => optN (bytesLt x y)
  | .lss => optB (bytesLt x y)
  | .add => bif Nat.ble (lenMax x + lenMax y) 1000000 then some (.str (x ++ y)) else none
  | _ => none
noncomputable def binEq (op : BinOp) (r : Option Bool) : Option C := match op with | .eql => optB r | .neq => optN r | _ => none
noncomputable def sameNil {α : Type} : Option α → Option α → Option Bool
  | none, none => some true
  | none, some _ => some false
  | some _, none => some false
  | _, _ => none
noncomputable def ckEq : Ck → Ck → Bool | .num n, .num m => Nat.beq n m | .len s, .len t => strSame s t | .txt s, .txt t => strSame s t | _, _ => false
noncomputable def cksSame : List Ck → List Ck → Bool | [], [] => true | a :: l, b :: r => ckEq a b && cksSame l r | _, _ => false
noncomputable def hasNum : List Ck → Bool | [] => false | .num _ :: _ => true | .len _ :: _ => true | .txt _ :: l => hasNum l
/-- is one part shorter than the whole? -/
noncomputable def offLt : List Ck → List Ck → Option Bool
  | [], [] => some false
  | [], y :: l => bif hasNum (y :: l) then some true else none
  | x :: l, y :: r => bif ckEq x y then offLt l r else none
  | _ :: _, [] => none
noncomputable def binOff (op : BinOp) (x y : List Ck) : Option C := match op with | .lss => optB (offLt x y) | _ => none
noncomputable def binA (u : Option TypeDesc) (op : BinOp) : C → C → Option C
  | .int k x, .int k' y => bif Nat.beq (ikN k) (ikN k') then binInt op k x y else none
  | .slen s, .int .i64 y => binLen op s y
  | .str x, .str y => binStr op x y
  | .bool x, .bool y => (match u with | some .bool => binEq op (some (x == y)) | _ => none)
  | .sl x _ _, .sl y _ _ => (match u with | some (.slice _) => binEq op (sameNil x y) | _ => none)
  | .so _ _ _, .sl none _ _ => (match u with | some (.slice _) => binEq op (some false) | _ => none)
  | .off x, .off y => binOff op x y
  | .int .i64 n, .off y => bif eqI n 0 then binOff op [] y else none
  | _, _ => none
noncomputable def rdCells (h : Tr AO) (b : Nat) : Option (List C × Nat) := match h.get b with | some (.cells cs z) => some (cs, z) | _ => none
noncomputable def natOf : Int → Option Nat | .ofNat n => some n | .negSucc _ => none
noncomputable def keyEq : C → C → Option Bool
  | .int i a, .int j b => ifB (Nat.beq (ikN i) (ikN j)) (some (eqI a b)) none
  | .str s, .str t => strEqA s t
  | _, _ => none
noncomputable def findA (k : C) : List (C × C) → Option (Option C)
  | [] => some none
  | p :: es => match keyEq k p.1 with | some true => some (some p.2) | some false => findA k es | none => none
noncomputable def isInt : C → Bool | .int _ _ => true | _ => false
noncomputable def putA (k v : C) : List (C × C) → Option (List (C × C))
  | [] => some [(k, v)]
  | p :: es => match keyEq k p.1 with
    | some true => ifB (isInt k) (some ((p.1, v) :: es)) none
    | some false => bindO (putA k v es) fun r => some (p :: r)
    | none => none
/-- the cells that a slice, or a text, brings -/
noncomputable def bringS (h : Tr AO) (z b o n : Nat) : Option (List C × Nat × List Nat) :=
  bindO (rdCells h b) fun p => ifB (Nat.ble (Nat.add o (Nat.mul n z)) p.1.length) (some ((p.1.drop o).take (Nat.mul n z), n, [b])) none
noncomputable def bytesOK : List Pc → Bool | [] => true | .b n :: l => Nat.ble n 255 && bytesOK l | .tx _ :: _ => false
noncomputable def byteC : Pc → C | .b n => .int .u8 (n : Int) | .tx _ => .nofn
noncomputable def bringsA (h : Tr AO) (z : Nat) : C → Option (List C × Nat × List Nat)
  | .sl none n _ => ifB (Nat.beq n 0) (some ([], 0, [])) none
  | .slz _ _ _ _ => some ([], 0, [])
  | .sl (some (b, o)) n _ => bringS h z b o n
  | .so (b, o) n _ => bringS h z b o n
  | .str s => ifB (pureBytes s && (bytesOK s && Nat.beq z 1)) (some (s.map byteC, s.length, [])) none
  | _ => none
/-- in place, in cells that are known -/
noncomputable def appIn (h : Tr AO) (z b o len n : Nat) (new : List C) (T : List Nat) (v : C) : Option Ef :=
  ifB (Nat.beq n 0) (some (.val (.v (.one v)) (b :: T))) (bindO (rdCells h b) fun p => ifB (Nat.ble (Nat.add o (Nat.mul (Nat.add len n) z)) p.1.length)
    (some (.put b (.cells (splice p.1 (Nat.add o (Nat.mul len z)) new) p.2) (.v (.one v)) (b :: T))) none)
noncomputable def appNew (c z n : Nat) (old new : List C) (T : List Nat) : Option Ef := some (.new (.v (.one (.so (c, 0) n z))) (.cells (old ++ new) z) T)
noncomputable def appSl (c : Nat) (h : Tr AO) (z : Nat) (a : Option (Nat × Nat)) (len k : Nat) (p : List C × Nat × List Nat) : Option Ef :=
  match a with
  | none => ifB (Nat.beq len 0) (Bool.casesOn (Nat.ble p.2.1 k) (appNew c z p.2.1 [] p.1 p.2.2) (ifB (Nat.beq p.2.1 0) (some (.val (.v (.one (.sl none 0 k))) p.2.2)) none)) none
  | some a => Bool.casesOn (Nat.ble (Nat.add len p.2.1) k)
      (bindO (rdCells h a.1) fun q => ifB (Nat.ble (Nat.add a.2 (Nat.mul len z)) q.1.length) (appNew c z (Nat.add len p.2.1) ((q.1.drop a.2).take (Nat.mul len z)) p.1 (a.1 :: p.2.2)) none)
      (appIn h z a.1 a.2 len p.2.1 p.1 p.2.2 (.sl (some a) (Nat.add len p.2.1) k))
noncomputable def appSo (c : Nat) (h : Tr AO) (z : Nat) (a : Nat × Nat) (len y : Nat) (p : List C × Nat × List Nat) : Option Ef :=
  bindO (rdCells h a.1) fun q => ifB (Nat.beq y z) (Bool.casesOn (Nat.ble (Nat.add a.2 (Nat.mul (Nat.add len p.2.1) z)) q.1.length)
    (ifB (Nat.ble (Nat.add a.2 (Nat.mul len z)) q.1.length && Nat.beq (Nat.mod a.2 z) 0) (some (.mov a.1 (.cells ((q.1.drop a.2).take (Nat.mul len z) ++ p.1) z) (.v (.one (.so (c, 0) (Nat.add len p.2.1) z))) (a.1 :: p.2.2))) none)
    (appIn h z a.1 a.2 len p.2.1 p.1 p.2.2 (.so a (Nat.add len p.2.1) y))) none
/-- it is no more than memory bears -/
noncomputable def fitsA (need z by_ : Nat) : Bool := Nat.ble (Nat.mul (Nat.mul 2 need) by_) 281474976710656 && (Nat.ble need 4611686018427387904 && Nat.ble 1 z)
noncomputable def appendA (c : Nat) (h : Tr AO) (z by_ : Nat) (s x : C) : Option Ef :=
  bindO (bringsA h z x) fun p => match s with
    | .sl a len k => ifB (fitsA (Nat.add len p.2.1) z by_) (appSl c h z a len k p) none
    | .so a len y => ifB (fitsA (Nat.add len p.2.1) z by_) (appSo c h z a len y p) none
    | _ => none
noncomputable def lenS (s : List Pc) : C := ifB (pureBytes s) (.int .i64 s.length) (.slen s)
noncomputable def lenA (h : Tr AO) (d : Option TypeDesc) (c : C) : Option (C × List Nat) :=
  match c with
  | .str s => (match d with | some .string => some (lenS s, []) | _ => none)
  | .sl _ n _ => (match d with | some (.slice _) => some (.int .i64 n, []) | _ => none)
  | .so _ n _ => (match d with | some (.slice _) => some (.int .i64 n, []) | _ => none)
  | .slz _ _ _ _ => (match d with | some (.slice _) => some (.int .i64 0, []) | _ => none)
  | .ub _ l => (match d with | some (.slice _) => some (.off l, []) | _ => none)
  | .mp (some r) => (match d, h.get r with | some (.map _ _), some (.map es) => some (.int .i64 es.length, [r]) | _, _ => none)
  | _ => none
noncomputable def bytesOfA : List C → Option (List Pc)
  | [] => some []
  | .int .u8 (.ofNat n) :: l => bif Nat.ble n 255 then (bytesOfA l).map (.b n :: ·) else none
  | _ => none
noncomputable def intKeys : List (C × C) → Option (List Int)
  | [] => some []
  | p :: l => match p.1 with | .int .i64 n => bindO (intKeys l) fun r => some (n :: r) | _ => none
noncomputable def sameInts : List Int → List Int → Bool | [], [] => true | a :: l, b :: r => eqI a b && sameInts l r | _, _ => false
noncomputable def sameVals (v : C) : List (C × C) → Bool
  | [] => true
  | (_, u) :: l => match v, u with | .bool a, .bool b => (a == b) && sameVals v l | _, _ => false
noncomputable def ptrsA : List V → Option (List (Nat × Nat))
  | [] => some []
  | .v (.one (.ptr (some a))) :: l => (ptrsA l).map (a :: ·)
  | _ => none
noncomputable def one (c : C) : V := .v (.one c)
noncomputable def purE (v : Option V) : Option Ef := bindO v fun v => some (.val v [])
noncomputable def opPick (t : En) (q a b : Operand) : Option V := bindO (evalB t q) fun x => Bool.casesOn x (evalA t b) (evalA t a)
noncomputable def newVar (c : Nat) (z : Option V1) : Option Ef := match z with | some z => some (.new (.v (.one (.ptr (some (c, 0))))) (.cells z.cells 1) []) | none => none
noncomputable def listAt (l : List (Nat × Nat)) (i : Nat) : Option (Nat × Nat) := (l.drop i).head?
noncomputable def opBuild2 (pl : List (Nat × Nat)) (z : V1) (l : List (Nat × V1)) : Option V := match fillA (listAt pl) z.cells l with | some cs => some (.v (.agg cs)) | none => none
noncomputable def opBuild (t : En) (ty : TypeId) (ps : List (Nat × Operand)) : Option V :=
  match P.underlying ty with
  | some (.struct fs) => match zeroA P ty, partsA t ps, placesA P fs.toList with | some z, some l, some pl => opBuild2 pl z l | _, _, _ => none
  | _ => none
noncomputable def atZ (z : Nat) (i : Nat) : Option (Nat × Nat) := some (i * z, z)
noncomputable def opBuildSlice2 (c len z : Nat) (zv : V1) (l : List (Nat × V1)) : Option Ef :=
  bif Nat.ble (len * z) 16777216 && Nat.beq zv.cells.length z then
    match fillA (atZ z) (repC zv.cells len) l with | some cs => some (.new (.v (.one (.sl (some (c, 0)) len len))) (.cells cs z) []) | none => none
  else none
noncomputable def opBuildSlice (t : En) (c : Nat) (ty : TypeId) (len : Nat) (ps : List (Nat × Operand)) : Option Ef :=
  match P.underlying ty with
  | some (.slice e) => match sizeA P e, zeroA P e, partsA t ps with | some z, some zv, some l => opBuildSlice2 c len z zv l | _, _, _ => none
  | _ => none
noncomputable def opLoad2 (h : Tr AO) (ty : TypeId) (b o : Nat) : Option Ef :=
  match rdCells h b with | some (cs, _) => (match partA P ty cs o with | some v => some (.val (.v v) [b]) | none => none) | none => none
noncomputable def opLoad (t : En) (h : Tr AO) (ty : TypeId) (a : Operand) : Option Ef := bindO (evalP t a) fun p => opLoad2 P h ty p.1 p.2
noncomputable def opStore2 (h : Tr AO) (n b o : Nat) (v : List C) : Option Ef :=
  match rdCells h b with
  | some (cs, z) => bif Nat.beq v.length n && Nat.ble (o + n) cs.length then some (.put b (.cells (splice cs o v) z) undefV [b]) else none
  | none => none
noncomputable def opStore (t : En) (h : Tr AO) (ty : TypeId) (a x : Operand) : Option Ef :=
  bindO (evalP t a) fun p => bindO (eval1 t x) fun v => bindO (sizeA P ty) fun n => opStore2 h n p.1 p.2 v.cells
noncomputable def opNil : Option C → Option V
  | some (.ptr (some a)) => some (one (.ptr (some a)))
  | some (.fn f l) => some (one (.fn f l))
  | _ => none
noncomputable def oneE (c : Option C) : Option V := bindO c fun c => some (one c)
noncomputable def opBin (t : En) (u : Option TypeDesc) (o : BinOp) (x y : Operand) : Option V := bindO (evalC t x) fun a => bindO (evalC t y) fun b => oneE (binA u o a b)
noncomputable def ptrE (T : List Nat) (c : Option C) : Option Ef := bindO c fun c => some (.val (one c) T)
noncomputable def opPtr2 (h : Tr AO) (z : Nat) (o : BinOp) (x y : Nat × Nat) : Option Ef :=
  ifB (Nat.beq z 0) none (bindO (rdCells h x.1) fun _ => bindO (rdCells h y.1) fun _ => ptrE [x.1, y.1] (binEq o (some (Nat.beq x.1 y.1 && Nat.beq x.2 y.2))))
noncomputable def opPtr (t : En) (h : Tr AO) (z : Option Nat) (o : BinOp) (x y : Operand) : Option Ef :=
  bindO (evalC t x) fun a => bindO (evalC t y) fun b => match a, b with
    | .ptr none, .ptr y => ptrE [] (binEq o (some y.isNone))
    | .ptr (some _), .ptr none => ptrE [] (binEq o (some false))
    | .ptr (some x), .ptr (some y) => bindO z fun z => opPtr2 h z o x y
    | _, _ => none
noncomputable def opUn : UnOp → Option C → Option V
  | .not, some (.bool b) => some (one (.bool (!b)))
  | .neg, some (.int k n) => some (one (.int k (wrapA k (0 - n))))
  | _, _ => none
noncomputable def toStr2 (h : Tr AO) (b o n : Nat) : Option Ef :=
  match rdCells h b with
  | some (cs, _) => bif Nat.ble (o + n) cs.length then (match bytesOfA ((cs.drop o).take n) with | some l => some (.val (.v (.one (.str l))) [b]) | none => none) else none
  | none => none
noncomputable def toStr (h : Tr AO) (e : Option TypeDesc) (a : Option (Nat × Nat)) (n : Nat) : Option Ef :=
  match e with
  | some (.int .u8) => (match a with | none => some (.val (one (.str [])) []) | some (b, o) => toStr2 h b o n)
  | _ => none
noncomputable def opConv (h : Tr AO) (s d : Option TypeDesc) (x : Option C) : Option Ef :=
  match x with
  | some (.int _ n) => (match s, d with | some (.int _), some (.int k) => some (.val (one (.int k (wrapA k n))) []) | _, _ => none)
  | some (.str l) => (match s, d with | some .string, some .string => some (.val (one (.str l)) []) | _, _ => none)
  | some (.sl a n _) => (match s, d with | some (.slice e), some .string => toStr h (P.underlying e) a n | _, _ => none)
  | some (.so a n _) => (match s, d with | some (.slice e), some .string => toStr h (P.underlying e) (some a) n | _, _ => none)
  | _ => none
noncomputable def opFunc (t : En) (f : Fn) (first cap : List Operand) : Option V :=
  match f, first, evalAll t cap with
  | .func g, [], some l => (match ptrsA l with | some as => some (one (.fn g as)) | none => none)
  | _, _, _ => none
noncomputable def newMap (c : Nat) : Ef := .new (.v (.one (.mp (some c)))) (.map []) []
noncomputable def opMakeMap (t : En) (c : Nat) (ty : TypeId) : Option Operand → Option Ef
  | none => some (newMap c)
  | some r => match P.underlying ty, evalI t r with | some (.map _ _), some _ => some (newMap c) | _, _ => none
noncomputable def opPut2 (h : Tr AO) (r : Nat) (k x : C) : Option Ef :=
  match h.get r with
  | some (.map es) => (match putA k x es with | some es' => some (.put r (.map es') undefV [r]) | none => none)
  | _ => none
/-- may such a key be looked for? -/
noncomputable def keyOK (kt : Option TypeDesc) (k : C) : Bool := match kt, k with | some (.int _), .int _ _ => true | some .string, .str _ => true | _, _ => false
noncomputable def opPut (t : En) (h : Tr AO) (ty : TypeId) (m k x : Operand) : Option Ef :=
  match P.underlying ty with
  | some (.map kt _) => bindO (evalC t k) fun kc => ifB (keyOK (P.underlying kt) kc) (bindO (evalC t x) fun xc => bindO (evalC t m) fun mc => match mc with | .mp (some r) => opPut2 h r kc xc | _ => none) none
  | _ => none
noncomputable def someC : Option C → V1 → V1 | some c, _ => .one c | none, z => z
noncomputable def opLook2 (h : Tr AO) (r : Nat) (z : V1) (k : C) (ok : Bool) : Option Ef :=
  match h.get r with
  | some (.map es) => (match findA k es with
    | some f => some (.val (bif ok then .tup [someC f z, .one (.bool f.isSome)] else .v (someC f z)) [r])
    | none => none)
  | _ => none
noncomputable def opLook (t : En) (h : Tr AO) (ty : TypeId) (m k : Operand) (ok : Bool) : Option Ef :=
  match P.underlying ty with
  | some (.map kt e) => bindO (evalC t k) fun kc => ifB (keyOK (P.underlying kt) kc) (bindO (zeroA P e) fun z => bindO (evalC t m) fun mc => match mc with | .mp (some r) => opLook2 h r z kc ok | _ => none) none
  | _ => none
noncomputable def elemOf (ty : TypeId) : Option Nat := match P.underlying ty with | some (.slice e) => sizeA P e | _ => none
/-- a bound, or what stands for none -/
noncomputable def bndA (t : En) (d : Nat) : Option Operand → Option Nat
  | none => some d
  | some x => match evalI t x with | some (.ofNat n) => some n | _ => none
noncomputable def slStr (s : List Pc) (l u : Nat) : Option V := bif pureBytes s && Nat.ble l u && Nat.ble u s.length then some (one (.str ((s.drop l).take (u - l)))) else none
noncomputable def slKnown (b o z l u m k : Nat) : Option V := ifB (Nat.ble l u && Nat.ble u m && Nat.ble m k) (some (one (.sl (some (b, Bool.casesOn (Nat.beq m l) (Nat.add o (Nat.mul l z)) o)) (Nat.sub u l) (Nat.sub m l)))) none
noncomputable def slOpen (b o z l u len : Nat) : Option V :=
  ifB (Nat.ble l u && Nat.ble u len) (some (one (Bool.casesOn (Nat.blt l len || Nat.beq l 0) (.slz b o l z) (.so (b, Nat.add o (Nat.mul l z)) (Nat.sub u l) z)))) none
noncomputable def opSl (a : Option (Nat × Nat)) (len cap z l u : Nat) (m : Option (Option Nat)) : Option V :=
  match a, m with
  | none, none => ifB (Nat.beq l 0 && Nat.beq u 0 && Nat.beq len 0) (some (one (.sl none 0 cap))) none
  | none, some (some m) => ifB (Nat.beq l 0 && Nat.beq u 0 && Nat.beq m 0) (some (one (.sl none 0 0))) none
  | some p, none => slKnown p.1 p.2 z l u cap cap
  | some p, some (some m) => slKnown p.1 p.2 z l u m cap
  | _, some none => none
noncomputable def opSo (p : Nat × Nat) (len y z l u : Nat) (m : Option (Option Nat)) : Option V :=
  ifB (Nat.beq y z) (match m with
  | none => slOpen p.1 p.2 z l u len
  | some (some m) => slKnown p.1 p.2 z l u m len
  | some none => none) none
noncomputable def mxA (t : En) (hi : Option Operand) : Option Operand → Option (Option Nat) | none => none | some x => some (Option.casesOn hi none fun _ => bndA t 0 (some x))
noncomputable def opSlice (t : En) (ty : TypeId) (x : Operand) (lo hi mx : Option Operand) : Option V :=
  bindO (evalC t x) fun c => match c with
  | .str s => (match P.underlying ty, mx with | some .string, none => bindO (bndA t 0 lo) fun l => bindO (bndA t s.length hi) fun u => slStr s l u | _, _ => none)
  | .sl a len cap => bindO (elemOf P ty) fun z => bindO (bndA t 0 lo) fun l => bindO (bndA t len hi) fun u => opSl a len cap z l u (mxA t hi mx)
  | .so a len y => bindO (elemOf P ty) fun z => bindO (bndA t 0 lo) fun l => bindO (bndA t len hi) fun u => opSo a len y z l u (mxA t hi mx)
  | _ => none
/-- where a field lies that has cells -/
noncomputable def fieldOf (s : TypeId) (f : Nat) : Option Nat :=
  match P.underlying s with
  | some (.struct fs) => (match fs[f]? with | some fd => (match sizeA P fd.type with | some (_ + 1) => some fd.offset | _ => none) | none => none)
  | _ => none
noncomputable def opFieldAddr2 (b o : Nat) (f : Option Nat) : Option V := bindO f fun n => some (one (.ptr (some (b, Nat.add o n))))
noncomputable def opFieldAddr (t : En) (s : TypeId) (x : Operand) (f : Nat) : Option V :=
  bindO (evalP t x) fun p => opFieldAddr2 p.1 p.2 (fieldOf P s f)
noncomputable def val1E : Option V1 → Option V | some v => some (.v v) | none => none
noncomputable def opField2 (cs : List C) (f : Option Field) : Option V := match f with | some fd => val1E (partA P fd.type cs fd.offset) | none => none
noncomputable def opField (t : En) (s : TypeId) (x : Operand) (f : Nat) : Option V :=
  match eval1 t x with
  | some (.agg cs) => (match P.underlying s with | some (.struct fs) => opField2 P cs fs[f]? | _ => none)
  | _ => none
noncomputable def idxA (p : Nat × Nat) (z len : Nat) (i : Int) : Option V := match i with | .ofNat i => ifB (Nat.blt i len) (some (one (.ptr (some (p.1, Nat.add p.2 (Nat.mul i z)))))) none | _ => none
noncomputable def opIndexAddr2 (z : Nat) (i : Int) : C → Option V
  | .sl (some p) len _ => idxA p z len i
  | .so p len _ => idxA p z len i
  | _ => none
noncomputable def opIndexAddr (t : En) (ty : TypeId) (x ix : Operand) : Option V :=
  bindO (elemOf P ty) fun z => bindO (evalI t ix) fun i => bindO (evalC t x) fun c => opIndexAddr2 z i c
noncomputable def opIndex2 (s : List Pc) (i : Nat) : Option V := bif pureBytes s then (match (s.drop i).head? with | some (.b n) => bif Nat.ble n 255 then some (one (.int .u8 n)) else none | _ => none) else none
noncomputable def opIndex (t : En) (ty : TypeId) (x ix : Operand) : Option V :=
  match evalC t x, evalI t ix with
  | some (.str s), some (.ofNat i) => (match P.underlying ty with | some .string => opIndex2 s i | _ => none)
  | _, _ => none
noncomputable def opRange (t : En) (h : Tr AO) (c : Nat) (ty : TypeId) (x : Operand) : Option Ef :=
  match P.underlying ty, evalC t x with
  | some (.map _ _), some (.mp (some m)) => (match h.get m with
    | some (.map es) => bindO (intKeys es) fun keys => some (.new (.v (.one (.ptr (some (c, 0))))) (.iter m keys []) [m])
    | _ => none)
  | _, _ => none
noncomputable def nextV (c b m : Nat) (keys : List Int) (ks : List Nat) : List (C × C) → Option Ef
  | [] => none
  | p :: r => ifB (sameVals p.2 r) (some (.stp b (.iter m keys (ks ++ [c])) (.tup [.one (.bool true), .one (.key b c), .one p.2]) [b, m])) none
noncomputable def opNext2 (c b m : Nat) (keys : List Int) (ks : List Nat) (es : List (C × C)) : Option Ef :=
  bindO (intKeys es) fun now => ifB (sameInts now keys) (ifB (Nat.beq ks.length keys.length) (some (.val (.tup [.one (.bool false)]) [b, m])) (nextV c b m keys ks es)) none
noncomputable def opNext (t : En) (h : Tr AO) (c : Nat) (x : Operand) : Option Ef :=
  match evalC t x with
  | some (.ptr (some (b, 0))) => (match h.get b with
    | some (.iter m keys ks) => (match h.get m with | some (.map es) => opNext2 c b m keys ks es | _ => none)
    | _ => none)
  | _ => none
noncomputable def entryV (b m k : Nat) : List (C × C) → Option Ef
  | [] => none
  | p :: r => ifB (sameVals p.2 r) (some (.val (.tup [.one (.key b k), .one p.2]) [b, m])) none
noncomputable def opEntry2 (b m : Nat) (keys : List Int) (k : Nat) (es : List (C × C)) : Option Ef :=
  bindO (intKeys es) fun now => ifB (sameInts now keys) (entryV b m k es) none
noncomputable def opEntry (t : En) (h : Tr AO) (x : Operand) : Option Ef :=
  match evalC t x with
  | some (.ptr (some (b, 0))) => (match h.get b with
    | some (.iter m keys ks) => (match h.get m, ks.getLast? with | some (.map es), some k => opEntry2 b m keys k es | _, _ => none)
    | _ => none)
  | _ => none
noncomputable def opExtract (i : Nat) : Option V → Option V | some (.tup l) => val1E (l.drop i).head? | _ => none
noncomputable def lenE : Option (C × List Nat) → Option Ef | some (n, T) => some (.val (.v (.one n)) T) | none => none
noncomputable def biLen (h : Tr AO) (st : TypeId) : List V → Option Ef | [.v (.one a)] => lenE (lenA h (P.underlying st) a) | _ => none
noncomputable def bytesA (t : TypeId) : Option Nat := match P.info? t with | some i => some i.bytes | none => none
/-- what is appended is no number of zeros -/
noncomputable def plainTy (t : Option TypeId) : Bool := match t with | some t => (match P.underlying t with | some (.int _) => false | some _ => true | none => false) | none => false
noncomputable def biAppend (h : Tr AO) (c : Nat) (st : TypeId) (xt : Option TypeId) : List V → Option Ef
  | [.v (.one s), .v (.one x)] => (match P.underlying st with
    | some (.slice e) => ifB (plainTy P xt) (bindO (sizeA P e) fun z => bindO (zeroA P e) fun zv => bindO (bytesA P e) fun y => ifB (Nat.beq zv.cells.length z) (appendA c h z y s x) none) none
    | _ => none)
  | _ => none
noncomputable def biMax : List V → Option Ef | [.v (.one (.int .i64 a)), .v (.one (.int .i64 b))] => some (.val (one (.int .i64 (bif ltI a b then b else a))) []) | _ => none
noncomputable def clear2 (h : Tr AO) (b o n z : Nat) (zv : V1) : Option Ef :=
  bindO (rdCells h b) fun p => ifB (Nat.beq zv.cells.length z && Nat.ble (Nat.add o (Nat.mul n z)) p.1.length) (some (.put b (.cells (splice p.1 o (repC zv.cells n)) p.2) undefV [b])) none
noncomputable def clearSl (h : Tr AO) (e : TypeId) (a : Option (Nat × Nat)) (n : Nat) : Option Ef :=
  match a with
  | none => some (.val undefV [])
  | some p => ifB (Nat.beq n 0) (some (.val undefV [])) (bindO (sizeA P e) fun z => bindO (zeroA P e) fun zv => clear2 h p.1 p.2 n z zv)
noncomputable def biClear (h : Tr AO) (st : TypeId) (args : List V) : Option Ef :=
  match P.underlying st, args with
  | some (.slice e), [.v (.one (.sl a n _))] => clearSl P h e a n
  | some (.slice e), [.v (.one (.so a n _))] => clearSl P h e (some a) n
  | some (.slice _), [.v (.one (.slz _ _ _ _))] => some (.val undefV [])
  | _, _ => none
noncomputable def opBuiltin (h : Tr AO) (c : Nat) (b : Builtin) (st xt : Option TypeId) (args : List V) : Option Ef :=
  match b, st with
  | .len, some st => biLen P h st args
  | .append, some st => biAppend P h c st xt args
  | .max, _ => biMax args
  | .clear, some st => biClear P h st args
  | _, _ => none
noncomputable def capV : List (Nat × Nat) → List V | [] => [] | a :: l => .v (.one (.ptr (some a))) :: capV l
noncomputable def opCallV (f : Option C) (args : List V) : Option Ef := match f with | some (.fn g cap) => some (.call g (args ++ capV cap)) | _ => none
noncomputable def opCall2 (t : En) (h : Tr AO) (c : Nat) (st xt : Option TypeId) (args : List V) : Callee → Option Ef
  | .builtin b => opBuiltin P h c b st xt args
  | .value f => opCallV (evalC t f) args
  | _ => none
noncomputable def opCall (t : En) (h : Tr AO) (c : Nat) (q : Call) : Option Ef := bindO (evalAll t q.args.toList) fun args => opCall2 P t h c q.argTypes[0]? q.argTypes[1]? args q.callee
/-- an operation, made ready: one that only reckons, or another one -/
inductive Fn1 where | pur (f : Loc → Tr V → Option V) | eff (f : En → Tr AO → Nat → Option Ef)
noncomputable def efV (e : Option Ef) : Option V := bindO e fun e => match e with | .val v _ => some v | _ => none
noncomputable def purV (v : Option C) : Option V := bindO v fun c => some (.v (.one c))
noncomputable def getV (k x : Nat) (l : Loc) (g : Tr V) : Option V := getL l x (Bool.casesOn (bitA k x) none (g.get x))
/-- an operand, made ready -/
noncomputable def opndV (k : Nat) (x : Operand) : Loc → Tr V → Option V := Operand.casesOn x (fun x => getV k x) (fun v _ _ => cstA v) (fun _ _ _ => none) (fun f _ _ => some (.v (.one (.fn f []))))
noncomputable def cOp (k : Nat) (op : Op) : Fn1 := match op with
  | .move (.tmp x) => .pur (getV k x)
  | .move (.const v) => .pur fun _ _ => cstA v
  | .assign (.tmp x) => .pur (getV k x)
  | .assign (.const v) => .pur fun _ _ => cstA v
  | .move x => .pur fun l g => evalA ⟨l, g, k⟩ x
  | .assign x => .pur fun l g => evalA ⟨l, g, k⟩ x
  | .pick q a b => .pur fun l g => opPick ⟨l, g, k⟩ q a b
  | .alloc e => .eff fun _ _ c => newVar c (zeroA P e)
  | .box _ x => .eff fun t _ c => newVar c (eval1 t x)
  | .build ty ps => .pur fun l g => opBuild P ⟨l, g, k⟩ ty ps.toList
  | .buildSlice ty len ps => .eff fun t _ c => opBuildSlice P t c ty len ps.toList
  | .load ty a => .eff fun t h _ => opLoad P t h ty a
  | .store ty a x => .eff fun t h _ => opStore P t h ty a x
  | .nilCheck x => .pur fun l g => opNil (evalC ⟨l, g, k⟩ x)
  | .binOp o ty x y _ => (match P.underlying ty with | some (.pointer e) => .eff fun t h _ => opPtr t h (sizeA P e) o x y | u => .pur fun l g => opBin ⟨l, g, k⟩ u o x y)
  | .unOp o _ x => .pur fun l g => opUn o (evalC ⟨l, g, k⟩ x)
  | .convert s d x => .eff fun t h _ => opConv P h (P.underlying s) (P.underlying d) (evalC t x)
  | .makeFunc f first cap => .pur fun l g => opFunc ⟨l, g, k⟩ f first.toList cap.toList
  | .makeMap ty r => .eff fun t _ c => opMakeMap P t c ty r
  | .insert ty m k x => .eff fun t h _ => opPut P t h ty m k x
  | .mapUpdate ty m k x => .eff fun t h _ => opPut P t h ty m k x
  | .lookup ty m k ok => .eff fun t h _ => opLook P t h ty m k ok
  | .slice ty x lo hi mx => .pur fun l g => opSlice P ⟨l, g, k⟩ ty x lo hi mx
  | .fieldAddr s x f => .pur fun l g => opFieldAddr P ⟨l, g, k⟩ s x f
  | .field s x f => .pur fun l g => opField P ⟨l, g, k⟩ s x f
  | .indexAddr ty x ix => .pur fun l g => opIndexAddr P ⟨l, g, k⟩ ty x ix
  | .index ty x ix => .pur fun l g => opIndex P ⟨l, g, k⟩ ty x ix
  | .range ty x => .eff fun t h c => opRange P t h c ty x
  | .next x false => .eff fun t h c => opNext t h c x
  | .entry x => .eff fun t h _ => opEntry t h x
  | .extract x i => .pur fun l g => opExtract i (evalA ⟨l, g, k⟩ x)
  | .call q => .eff fun t h c => opCall P t h c q
  | _ => .eff fun _ _ _ => none
inductive Ins where | mv (d : Nat) (f : Loc → Tr V → Option V) | ef (dst : Option Nat) (f : En → Tr AO → Nat → Option Ef) | gd (x : Nat) (b : Bool) (dst : Option Nat) (f : En → Tr AO → Nat → Option Ef) | bad
noncomputable def cGuard (all : List Oper) : Option (Nat × Bool) → Option (Option (Nat × Bool))
  | none => some none
  | some p => match (all.drop p.1).head? with | some o => (match o.dst with | some d => some (some (d, p.2)) | none => none) | none => none
noncomputable def okD (n : Nat) : Option Nat → Bool | none => true | some d => Nat.blt d n
noncomputable def effF : Fn1 → En → Tr AO → Nat → Option Ef | .eff f => f | .pur f => fun e _ _ => purE (f e.l e.g)
noncomputable def cFull (dst : Option Nat) (f : Fn1) : Option (Nat × Bool) → Ins
  | some p => .gd p.1 p.2 dst (effF f)
  | none => match dst, f with
    | some d, .pur f => .mv d f
    | _, _ => .ef dst (effF f)
noncomputable def cIns (k n : Nat) (all : List Oper) (o : Oper) : Ins := Bool.casesOn (okD n o.dst) .bad (Option.casesOn (cGuard all o.guard) .bad (cFull o.dst (cOp P k o.op)))
noncomputable def cReg (k n : Nat) (all : List Oper) : List Oper → List Ins
  | [] => []
  | o :: r => cIns P k n all o :: cReg k n all r
-- which temporaries are read in another region than that in which they are written
noncomputable def rdsX (d m : Nat) : List Operand → Nat
  | [] => m
  | x :: l => rdsX d (match x with | .tmp k => ifB (bitA d k) m (Nat.lor m (Nat.shiftLeft 1 k)) | _ => m) l
noncomputable def maskOps : List Oper → Nat → Nat → Nat
  | [], _, m => m
  | o :: l, d, m => maskOps l (match o.dst with | some k => Nat.lor d (Nat.shiftLeft 1 k) | none => d) (rdsX d m o.op.operands.toList)
noncomputable def maskC : Code → Nat
  | .region _ ops _ => maskOps ops.toList 0 0
  | .seq a b => Nat.lor (maskC a) (maskC b)
  | .cond c a b => Nat.lor (rdsX 0 0 [c]) (Nat.lor (maskC a) (maskC b))
  | .block _ b => maskC b
  | .loop b => maskC b
  | _ => 0
noncomputable def maskR : List ResultVar → Nat
  | [] => 0
  | .tmp t :: l => Nat.lor (Nat.shiftLeft 1 t) (maskR l)
  | .cell t _ :: l => Nat.lor (Nat.shiftLeft 1 t) (maskR l)

structure St where
  l : Loc
  g : Tr V
  h : Tr AO
  c : Nat
  m : Nat
inductive Ex where | norm | ex (i : Nat) | ret
inductive FP where | fp (T W : List Nat) | quiet | loud (q : Nat)
abbrev CallF := FuncId → List V → Tr AO → Nat → Option (V × Tr AO × Nat × Nat)
/-- what is new: temporaries, memory, a footprint -/
inductive Nw where | mk (v : V) (h : Tr AO) (c m : Nat) (f : FP)
noncomputable def minA (a b : Nat) : Nat := Bool.casesOn (Nat.ble a b) b a
noncomputable def efCall (c m : Nat) (r : Option (V × Tr AO × Nat × Nat)) : Option Nw :=
  bindO r fun p => some (.mk p.1 p.2.1 p.2.2.1 (minA m p.2.2.2) (Bool.casesOn (Nat.ble c p.2.2.2) (.loud p.2.2.2) .quiet))
noncomputable def hasN (x : Nat) : List Nat → Bool | [] => false | y :: l => Nat.beq x y || hasN x l
noncomputable def liveA (h : Tr AO) (b : Nat) : Bool := match h.get b with | none => false | some .dead => false | some _ => true
noncomputable def doEf (call : CallF) (h : Tr AO) (c m : Nat) (e : Ef) : Option Nw := match e with
  | .val v T => some (.mk v h c m (.fp T []))
  | .new v o T => some (.mk v (Tr.put o h c) (Nat.succ c) m (.fp (c :: T) []))
  | .put b o v T => ifB (liveA h b && hasN b T) (some (.mk v (Tr.put o h b) c (minA m b) (.fp T [b]))) none
  | .mov b o v T => ifB (liveA h b && hasN b T) (some (.mk v (Tr.put o (Tr.put .dead h b) c) (Nat.succ c) (minA m b) (.fp (c :: T) [b]))) none
  | .stp b o v T => ifB (liveA h b && hasN b T) (some (.mk v (Tr.put o h b) (Nat.succ c) (minA m b) (.fp (c :: T) [b]))) none
  | .call f args => efCall c m (call f args h c)
noncomputable def putL (dst : Option Nat) (v : V) (l : Loc) : Loc := Option.casesOn dst l fun d => (d, v) :: l
/-- is it wanted? -/
noncomputable def wantA (k x : Nat) (b : Bool) (l : Loc) (g : Tr V) : Option Bool :=
  bindO (getV k x l g) fun v => match v with | .v (.one (.bool c)) => some (c == b) | .tup [] => some false | _ => none
/-- one operation: what is new behind it -/
noncomputable def insA (call : CallF) (k : Nat) (f : En → Tr AO → Nat → Option Ef) (l : Loc) (g : Tr V) (h : Tr AO) (c m : Nat) : Option Nw :=
  bindO (f ⟨l, g, k⟩ h c) (doEf call h c m)
noncomputable def gdA (call : CallF) (k x : Nat) (b : Bool) (f : En → Tr AO → Nat → Option Ef) (l : Loc) (g : Tr V) (h : Tr AO) (c m : Nat) : Option Nw :=
  bindO (wantA k x b l g) fun w => Bool.casesOn w (some (.mk undefV h c m (.fp [] []))) (insA call k f l g h c m)
noncomputable def opsA (call : CallF) (k : Nat) (is : List Ins) : Loc → Tr V → Tr AO → Nat → Nat → Option St :=
  List.rec (fun l g h c m => some ⟨l, g, h, c, m⟩) (fun i _ ih => Ins.rec
    (fun d f l g h c m => Option.rec none (fun v => ih ((d, v) :: l) g h c m) (f l g))
    (fun dst f l g h c m => Option.rec none (fun x => Nw.rec (fun v h' c' m' _ => ih (putL dst v l) g h' c' m') x) (insA call k f l g h c m))
    (fun x b dst f l g h c m => Option.rec none (fun x => Nw.rec (fun v h' c' m' _ => ih (putL dst v l) g h' c' m') x) (gdA call k x b f l g h c m))
    (fun _ _ _ _ _ => none) i) is
noncomputable def addFP (i : Nat) (f : FP) (l : List (Nat × FP)) : List (Nat × FP) := match f with | .fp [] [] => l | f => (i, f) :: l
noncomputable def opsD (call : CallF) (k : Nat) : List Ins → Nat → Loc → Tr V → Tr AO → Nat → Nat → List (Nat × FP) → Option (St × List (Nat × FP))
  | [], _, l, g, h, c, m, fs => some (⟨l, g, h, c, m⟩, fs)
  | .mv d f :: r, j, l, g, h, c, m, fs => bindO (f l g) fun v => opsD call k r (Nat.succ j) ((d, v) :: l) g h c m fs
  | .ef dst f :: r, j, l, g, h, c, m, fs => bindO (insA call k f l g h c m) fun x => Nw.casesOn x fun v h' c' m' fp => opsD call k r (Nat.succ j) (putL dst v l) g h' c' m' (addFP j fp fs)
  | .gd x b dst f :: r, j, l, g, h, c, m, fs => bindO (gdA call k x b f l g h c m) fun x => Nw.casesOn x fun v h' c' m' fp => opsD call k r (Nat.succ j) (putL dst v l) g h' c' m' (addFP j fp fs)
  | .bad :: _, _, _, _, _, _, _, _ => none
/-- a region's temporaries that are read elsewhere are kept -/
noncomputable def commit (k : Nat) (l : Loc) (g : Tr V) : Tr V :=
  List.rec g (fun p _ ih => Bool.rec ih (Tr.put p.2 ih p.1) (bitA k p.1)) l
/-- of each operation, all that stand before it, as bits -/
noncomputable def bitsOf (md : Region.Mode) (ms : List Nat) (o : Oper) : Nat := o.after.toList.foldl (fun m e => if Region.binds md e then m ||| (1 <<< e.on) ||| ms.getD e.on 0 else m) 0
noncomputable def bits (md : Region.Mode) (ops : Array Oper) : Nat → List Nat
  | 0 => []
  | k + 1 => bits md ops k ++ [match ops[k]? with | none => 0 | some o => bitsOf md (bits md ops k) o]
/-- do two operations mind the same temporaries? -/
noncomputable def looksA (ops : Array Oper) (o : Oper) : List Tmp :=
  (o.op.operands.toList.filterMap fun | .tmp t => some t | _ => none) ++ (match o.guard with | some (j, _) => (match ops[j]? with | some q => q.dst.toList | none => []) | none => [])
noncomputable def apartT (ops : Array Oper) (x y : Oper) : Bool :=
  (match x.dst with | some d => !hasN d (looksA ops y) && !hasN d y.dst.toList | none => true) && (match y.dst with | some d => !hasN d (looksA ops x) | none => true)
noncomputable def tempsOk (ops : Array Oper) (ms : List Nat) : Bool :=
  (List.range ops.size).all fun i => match ops[i]? with
    | some y => (y.after.toList.all fun e => !Region.binds .any e || Nat.blt e.on i) && (List.range i).all fun j => bitA (ms.getD i 0) j || (match ops[j]? with | some x => apartT ops x y | none => true)
    | none => true
noncomputable def apartL : List Nat → List Nat → Bool | [], _ => true | x :: l, r => !hasN x r && apartL l r
noncomputable def allLt (q : Nat) : List Nat → Bool | [] => true | x :: l => Nat.blt x q && allLt q l
noncomputable def compat : FP → FP → Bool
  | .fp T W, .fp T' W' => apartL W T' && apartL W' T
  | .fp _ W, .quiet => isNil W
  | .quiet, .fp _ W => isNil W
  | .quiet, .quiet => true
  | .loud q, .fp T W => allLt q T && isNil W
  | .fp T W, .loud q => allLt q T && isNil W
  | _, _ => false
noncomputable def compat1 (ms : List Nat) (i : Nat) (f : FP) : List (Nat × FP) → Bool
  | [] => true
  | p :: l => (bitA (ms.getD i 0) p.1 || compat f p.2) && compat1 ms i f l
-- the list is the other way round: the last operation is its head
noncomputable def allCompat (ms : List Nat) : List (Nat × FP) → Bool
  | [] => true
  | p :: l => compat1 ms p.1 p.2 l && allCompat ms l
noncomputable def endReg (k : Nat) (s : St) : Ex × St := St.casesOn s fun l g h c m => (.norm, ⟨[], commit k l g, h, c, m⟩)
noncomputable def regA (call : CallF) (n k : Nat) (ops : List Oper) (s : St) : Option (Ex × St) :=
  St.casesOn s fun l g h c m => bindO (opsA call k (cReg P k n ops ops) l g h c m) fun s => some (endReg k s)
noncomputable def regD (call : CallF) (n k : Nat) (ops : Array Oper) (s : St) : Option (Ex × St) :=
  St.casesOn s fun l g h c m => bindO (opsD call k (cReg P k n ops.toList ops.toList) 0 l g h c m []) fun p =>
    ifB (tempsOk ops (bits .any ops ops.size) && allCompat (bits .any ops ops.size) p.2) (some (endReg k p.1)) none
noncomputable def exRegion (call : CallF) (n k : Nat) (ops : Array Oper) (draw : Bool) (s : St) : Option (Ex × St) :=
  Bool.casesOn draw (regA P call n k ops.toList s) (regD P call n k ops s)
noncomputable def loopN (body : St → Option (Ex × St)) (f : Nat) : St → Option (Ex × St) :=
  Nat.rec (fun _ => none) (fun _ ih s => Option.casesOn (body s) none fun p => Ex.casesOn p.1 (ih p.2) (fun i => some (.ex i, p.2)) (some (.ret, p.2))) f
noncomputable def seqA (r : Option (Ex × St)) (f : St → Option (Ex × St)) : Option (Ex × St) :=
  bindO r fun p => Ex.casesOn p.1 (f p.2) (fun i => some (.ex i, p.2)) (some (.ret, p.2))
noncomputable def blockA (id : Nat) (r : Option (Ex × St)) : Option (Ex × St) :=
  bindO r fun p => Ex.casesOn p.1 (some (.norm, p.2)) (fun i => some (Bool.casesOn (Nat.beq i id) (.ex i) .norm, p.2)) (some (.ret, p.2))
noncomputable def condA (b : Option Bool) (x y : Option (Ex × St)) : Option (Ex × St) := bindO b fun b => Bool.casesOn b y x
noncomputable def exec (call : CallF) (n k lf : Nat) (c : Code) : St → Option (Ex × St) :=
  Code.rec (fun s => some (.norm, s)) (fun _ ops draw s => exRegion P call n k ops draw s) (fun _ _ x y s => seqA (x s) y)
    (fun c _ _ x y s => condA (evalB ⟨s.l, s.g, k⟩ c) (x s) (y s)) (fun id _ x s => blockA id (x s)) (fun _ x s => loopN x lf s)
    (fun _ _ _ _ _ _ _ => none) (fun id s => some (.ex id, s)) (fun _ _ _ => none) (fun _ _ => none) (fun _ _ => none) (fun s => some (.ret, s)) (fun _ _ => none) c
noncomputable def initL : List V → Nat → Loc
  | [], _ => []
  | v :: l, k => (k, v) :: initL l (Nat.succ k)
noncomputable def resultA (e : En) (h : Tr AO) (r : ResultVar) : Option V1 := match r with
  | .tmp t => bindO (e.get t) V.as1
  | .cell a ty => bindO (bindO (bindO (e.get a) V.asC) C.asP) fun p => bindO (rdCells h p.1) fun q => partA P ty q.1 p.2
noncomputable def resultsA (e : En) (h : Tr AO) : List ResultVar → Option (List V1)
  | [] => some []
  | r :: l => bindO (resultA P e h r) fun v => bindO (resultsA e h l) fun vs => some (v :: vs)
noncomputable def tupA : List V1 → V | [x] => .v x | l => .tup l
/-- which temporaries are kept: those, and the parameters -/
noncomputable def keepF (fn : Func) (code : Code) : Nat := Nat.lor (Nat.sub (Nat.shiftLeft 1 (Nat.add fn.params.size fn.nfree)) 1) (Nat.lor (maskC code) (maskR fn.results.toList))
noncomputable def finA (fn : Func) (k : Nat) (r : Option (Ex × St)) : Option (V × Tr AO × Nat × Nat) :=
  bindO r fun p => Ex.casesOn p.1
    (bindO (resultsA P ⟨p.2.l, p.2.g, k⟩ p.2.h fn.results.toList) fun l => some (tupA l, p.2.h, p.2.c, p.2.m)) (fun _ => none)
    (bindO (resultsA P ⟨p.2.l, p.2.g, k⟩ p.2.h fn.results.toList) fun l => some (tupA l, p.2.h, p.2.c, p.2.m))
noncomputable def enter (call : CallF) (lf : Nat) (fn : Func) (args : List V) (h : Tr AO) (c : Nat) : Option (V × Tr AO × Nat × Nat) :=
  bindO fn.body fun code => finA P fn (keepF fn code) (exec P call fn.ntmps (keepF fn code) lf code ⟨initL args 0, .nil, h, c, 1000000⟩)
noncomputable def run (summ : CallF) (lf : Nat) (d : Nat) : CallF :=
  Nat.rec (fun _ _ _ _ => none) (fun _ ih f args h c => Option.casesOn (summ f args h c) (bindO P.funcs[f]? fun fn => enter P ih lf fn args h c) some) d
end
end Go.Lab
