import Derived.Test.YtcolhmddhaabnaaDoorHcore
import Derived.Laws.Sem
namespace Go.H

/-- A call of a function of the program: from heap h it returns, and K holds of what it returns and of the heap then. -/
def Runs (P : Program) (f : FuncId) (args : Array Value) (h : Hp) (K : Value → Hp → Prop) : Prop :=
  ∀ w, hp w = h → Calls P f args w (fun e w' => ∃ v, e = .returned v ∧ K v (hp w') ∧ Same w w')
def Spec (P : Program) (f : FuncId) (args : Array Value) (h : Hp) (K : Value → Hp → Prop) : Prop :=
  (∀ w, (callFunc f args).run P w = .ok (.enter f args) w) ∧ Runs P f args h K

theorem Runs.mono {P : Program} {f : FuncId} {args : Array Value} {h : Hp} {K K' : Value → Hp → Prop} (s : Runs P f args h K)
    (hk : ∀ v h', K v h' → K' v h') : Runs P f args h K' :=
  fun w hw => (s w hw).mono fun _ _ ⟨v, he, hv, hS⟩ => ⟨v, he, hk _ _ hv, hS⟩
theorem Spec.mono {P : Program} {f : FuncId} {args : Array Value} {h : Hp} {K K' : Value → Hp → Prop} (s : Spec P f args h K)
    (hk : ∀ v h', K v h' → K' v h') : Spec P f args h K' := ⟨s.1, s.2.mono hk⟩

def evalL (l : List Value) : Operand → Value
  | .tmp t => l.getD t undef
  | .const v => v
  | .global g => .pointer (some ⟨g, 0, none⟩)
  | .func f => .func (.func f) #[] #[]
def mapL (l : List Value) (ps : Array (Nat × Operand)) : Array (Nat × Value) := (ps.toList.map fun p => (p.1, evalL l p.2)).toArray
def argsL (l : List Value) (xs : Array Operand) : Array Value := (xs.toList.map (evalL l)).toArray
def putL (l : List Value) (dst : Option Tmp) (v : Value) : List Value :=
  match dst with
  | some d => l.set d v
  | none => l
def isC : Operand → Bool
  | .const _ => true
  | _ => false
def flags (xs : Array Operand) : Array Bool := (xs.toList.map isC).toArray

/-! ### The operations over values -/
def oRd (P : Program) (s : Sem Value) (h : Hp) (K : Value → Prop) : Prop :=
  match rd P s h with
  | some v => K v
  | none => False
def oAw (P : Program) (s : Sem Value) (h : Hp) (K : Value → Hp → Prop) : Prop := aw P s K h
def oSt (P : Program) (s : Sem Unit) (h : Hp) (K : Hp → Prop) : Prop := aw P s (fun _ h => K h) h
def sPick (c a b : Value) : Sem Value := do pure (if ← asBool c then a else b)
def sNil (x : Value) : Sem Value :=
  match x with
  | .pointer none | .nilIface | .nilFunc => runtimePanic .nilDeref
  | .func (.method _) _ _ => stuck "a method value"
  | x => pure x
def sBin (op : BinOp) (t : TypeId) (c : Bool) (a b : Value) : Sem Value := do
  eqGuard op t (match c with | true => .const undef | false => .tmp 0) (.tmp 0) a b; binOp op t a b
/-- What an operation that enters, or steps, comes to. -/
def Nx (P : Program) (K : Value → Hp → Prop) : Next → Hp → Prop
  | .value v, h => K v h
  | .skip, h => K undef h
  | .enter f args, h => Runs P f args h K
  | _, _ => False
def oNx (P : Program) (s : Sem Next) (h : Hp) (K : Value → Hp → Prop) : Prop := aw P s (Nx P K) h
/-- A call through a value. -/
def oVal (P : Program) (f : Value) (args : Array Value) (h : Hp) (K : Value → Hp → Prop) : Prop :=
  match f with
  | .func (.func g) first captured => Spec P g (first ++ args ++ captured) h K
  | _ => False


/-! ### Values by their types -/
def kEq (a b : IntKind) : Bool :=
  match a, b with
  | .i8, .i8 | .i16, .i16 | .i32, .i32 | .i64, .i64 | .u8, .u8 | .u16, .u16 | .u32, .u32 | .u64, .u64 => true
  | _, _ => false
theorem kEq_eq {a b : IntKind} (h : kEq a b = true) : a = b := by cases a <;> cases b <;> first | rfl | cases h
def asIn (k : IntKind) (v : Value) (K : Int → Prop) : Prop :=
  match v with
  | .int k' n => match kEq k' k with
    | true => K n
    | false => False
  | _ => False
def asBo (v : Value) (K : Bool → Prop) : Prop :=
  match v with
  | .bool b => K b
  | _ => False
def asStr (v : Value) (K : ByteArray → Prop) : Prop :=
  match v with
  | .string b => K b
  | _ => False
def asSl (v : Value) (K : Option Addr → Nat → Nat → Prop) : Prop :=
  match v with
  | .slice a n c => K a n c
  | _ => False
def asPt (v : Value) (K : Option Addr → Prop) : Prop :=
  match v with
  | .pointer a => K a
  | _ => False
def nz (a : Option Addr) (K : Addr → Prop) : Prop :=
  match a with
  | some ad => K ad
  | none => False
def unc (l : List Value) (K : Value → List Value → Prop) : Prop :=
  match l with
  | v :: r => K v r
  | [] => False
def nilL (l : List Value) (A : Prop) : Prop :=
  match l with
  | [] => A
  | _ => False
/-- One cell, by a value of its type. -/
def shp (z v : Value) (K : Value → Prop) : Prop :=
  match z with
  | .int k _ => asIn k v fun n => K (.int k n)
  | .bool _ => asBo v fun b => K (.bool b)
  | .string _ => asStr v fun b => K (.string b)
  | .slice .. => asSl v fun a n c => K (.slice a n c)
  | .pointer _ => asPt v fun a => K (.pointer a)
  | _ => K v
def shpL : List Value → List Value → List Value → (List Value → Prop) → Prop
  | [], l, acc, K => nilL l (K acc)
  | z :: zs, l, acc, K => unc l fun v r => shp z v fun v => shpL zs r (acc ++ [v]) K
def asAg (v : Value) (K : List Value → Prop) : Prop :=
  match v with
  | .agg vs => K vs.toList
  | _ => False
def asTu (v : Value) (K : List Value → Prop) : Prop :=
  match v with
  | .tuple vs => K vs.toList
  | _ => False
def big (n : Nat) : Bool := Nat.ble 41 n
/-- A value, by a value of its type: structs cell by cell. -/
def shA (z v : Value) (K : Value → Prop) : Prop :=
  match z with
  | .agg zs => match big zs.toList.length with
    | true => K v
    | false => asAg v fun l => shpL zs.toList l [] fun l => K (.agg l.toArray)
  | z => shp z v K
def shT : List Value → List Value → List Value → (List Value → Prop) → Prop
  | [], l, acc, K => nilL l (K acc)
  | z :: zs, l, acc, K => unc l fun v r => shA z v fun v => shT zs r (acc ++ [v]) K
def shape (z v : Value) (K : Value → Prop) : Prop :=
  match z with
  | .tuple zs => match zs.toList with
    | [] => K v
    | zs => asTu v fun l => shT zs l [] fun l => K (.tuple l.toArray)
  | z => shA z v K
def zeroOf (P : Program) (t : TypeId) : Value :=
  match P.info? t with
  | some i => match i.zero with
    | some z => z
    | none => .nilIface
  | none => .nilIface
def sizeB (P : Program) (t : TypeId) : Nat :=
  match P.info? t with
  | some i => i.size
  | none => 0
def aggB (P : Program) (t : TypeId) : Bool :=
  match P.underlying t with
  | some (.struct _) | some (.array _ _) => true
  | _ => false

theorem shp_ok {z v : Value} {K : Value → Prop} (h : shp z v K) : K v := by
  unfold shp at h
  split at h
  · unfold asIn at h
    split at h
    · split at h
      · rename_i hk; rw [← kEq_eq hk] at h; exact h
      · exact h.elim
    · exact h.elim
  · unfold asBo at h; split at h <;> first | exact h | exact h.elim
  · unfold asStr at h; split at h <;> first | exact h | exact h.elim
  · unfold asSl at h; split at h <;> first | exact h | exact h.elim
  · unfold asPt at h; split at h <;> first | exact h | exact h.elim
  · exact h
theorem shpL_ok : ∀ {zs l acc : List Value} {K : List Value → Prop}, shpL zs l acc K → K (acc ++ l) ∧ l.length = zs.length
  | [], l, acc, K, h => by
    cases l with
    | nil => exact ⟨by rw [List.append_nil]; exact h, rfl⟩
    | cons v r => exact h.elim
  | z :: zs, l, acc, K, h => by
    cases l with
    | nil => exact h.elim
    | cons v r =>
      have h' := shp_ok (K := fun v => shpL zs r (acc ++ [v]) K) h
      obtain ⟨a, b⟩ := shpL_ok h'
      exact ⟨by simpa using a, by simp [b]⟩
theorem shA_ok {z v : Value} {K : Value → Prop} (h : shA z v K) : K v := by
  unfold shA at h
  split at h
  · split at h
    · exact h
    · unfold asAg at h
      split at h
      · have := (shpL_ok h).1; simpa using this
      · exact h.elim
  · exact shp_ok h
theorem shT_ok : ∀ {zs l acc : List Value} {K : List Value → Prop}, shT zs l acc K → K (acc ++ l)
  | [], l, acc, K, h => by
    cases l with
    | nil => rw [List.append_nil]; exact h
    | cons v r => exact h.elim
  | z :: zs, l, acc, K, h => by
    cases l with
    | nil => exact h.elim
    | cons v r =>
      have h' := shA_ok (K := fun v => shT zs r (acc ++ [v]) K) h
      have := shT_ok h'
      simpa using this
theorem shape_ok {z v : Value} {K : Value → Prop} (h : shape z v K) : K v := by
  unfold shape at h
  split at h
  · split at h
    · exact h
    · unfold asTu at h
      split at h
      · have := shT_ok h; simpa using this
      · exact h.elim
  · exact shA_ok h

/-! ### Typed reads and writes -/
def ld (h : Hp) (ad : Addr) (K : Value → Prop) : Prop :=
  match cell h ad with
  | some v => K v
  | none => False
def ldL : List Value → Hp → Addr → Nat → List Value → (List Value → Prop) → Prop
  | [], _, _, _, acc, K => K acc
  | z :: zs, h, ad, i, acc, K => ld h (ad.add i) fun v => shp z v fun v => ldL zs h ad (i + 1) (acc ++ [v]) K
def aggCells : Value → List Value
  | .agg zs => zs.toList
  | _ => []
def ldW (P : Program) (t : TypeId) (x : Value) (h : Hp) (K : Value → Prop) : Prop :=
  match x with
  | .pointer (some ad) => match aggB P t with
    | false => match P.underlying t with
      | some _ => ld h ad fun v => shp (zeroOf P t) v K
      | none => False
    | true => match Nat.beq (aggCells (zeroOf P t)).length (sizeB P t) && !big (sizeB P t) with
      | true => ldL (aggCells (zeroOf P t)) h ad 0 [] fun l => K (.agg l.toArray)
      | false => oRd P (Instr.loadAt t (.pointer (some ad))) h K
  | _ => False
def pl (v : Value) (A : Prop) : Prop :=
  match flatV v with
  | true => A
  | false => False
def st (h : Hp) (ad : Addr) (v : Value) (K : Hp → Prop) : Prop :=
  pl v (match h ad.block with
  | some (.cells c e fr) => (ad.spot = none ∧ ad.off < c.size ∧ frozenH h ad = false) ∧ K (h.set ad.block (.cells (c.setIfInBounds ad.off v) e fr))
  | _ => False)
def stL : List Value → Hp → Addr → Nat → (Hp → Prop) → Prop
  | [], h, _, _, K => K h
  | c :: r, h, ad, i, K => st h (ad.add i) c fun h' => stL r h' ad (i + 1) K
def stW (P : Program) (t : TypeId) (x v : Value) (h : Hp) (K : Hp → Prop) : Prop :=
  match x with
  | .pointer (some ad) => match aggB P t with
    | false => match Nat.beq (sizeB P t) 1 with
      | true => st h ad v K
      | false => oSt P (Instr.storeAt t (.pointer (some ad)) v) h K
    | true => match big (sizeB P t) with
      | false => (match v with
        | .agg cs => (match Nat.beq cs.toList.length (sizeB P t) with
          | true => stL cs.toList h ad 0 K
          | false => False)
        | _ => False)
      | true => oSt P (Instr.storeAt t (.pointer (some ad)) v) h K
  | _ => False
def nw (h : Hp) (o : Obj) (K : Nat → Hp → Prop) : Prop := ∀ r, h r = none → K r (h.set r o)
def boxW (P : Program) (t : TypeId) (v : Value) (h : Hp) (K : Value → Hp → Prop) : Prop :=
  match aggB P t with
  | true => nw h (.cells v.cells t) fun r h => K (.pointer (some ⟨r, 0, none⟩)) h
  | false => pl v (nw h (.cells #[v] t) fun r h => K (.pointer (some ⟨r, 0, none⟩)) h)
def allocW (P : Program) (t : TypeId) (h : Hp) (K : Value → Hp → Prop) : Prop :=
  match (P.info? t).bind (·.zero) with
  | some z => nw h (.cells z.cells t) fun r h => K (.pointer (some ⟨r, 0, none⟩)) h
  | none => False
def hasZero (P : Program) (t : TypeId) : Bool :=
  match (P.info? t).bind (·.zero) with
  | some _ => true
  | none => false
/-- The parts of a slice that is written out: each there, in order, each of the size. -/
def inRow : Nat → Nat → List (Nat × Value) → Option (List Value)
  | _, _, [] => some []
  | i, size, (j, v) :: r => match Nat.beq i j && Nat.beq v.cells.toList.length size with
    | true => match inRow (i + 1) size r with
      | some l => some (v.cells.toList ++ l)
      | none => none
    | false => none

/-! ### Reads, by what reads -/
def nb (neg b : Bool) : Bool :=
  match neg with
  | true => !b
  | false => b
def isNilIface : Value → Bool
  | .nilIface => true
  | _ => false
def isNilPt : Value → Bool
  | .pointer none => true
  | _ => false
def isNilSl : Value → Bool
  | .slice none _ _ => true
  | _ => false
/-- A comparison with nil: some neg. -/
def nilForm (P : Program) (op : BinOp) (t : TypeId) (c : Value) : Option Bool :=
  match op with
  | .eql => match P.underlying t with
    | some (.interface _) => match isNilIface c with | true => some false | false => none
    | some (.pointer _) => match isNilPt c with | true => some false | false => none
    | some (.slice _) => match isNilSl c with | true => some false | false => none
    | _ => none
  | .neq => match P.underlying t with
    | some (.interface _) => match isNilIface c with | true => some true | false => none
    | some (.pointer _) => match isNilPt c with | true => some true | false => none
    | some (.slice _) => match isNilSl c with | true => some true | false => none
    | _ => none
  | _ => none
def nlW (P : Program) (t : TypeId) (neg : Bool) (x : Value) (K : Value → Prop) : Prop :=
  match P.underlying t with
  | some (.interface _) => (match x with
    | .nilIface => K (.bool (nb neg true))
    | .iface _ _ => K (.bool (nb neg false))
    | _ => False)
  | some (.pointer _) => asPt x fun a => K (.bool (nb neg a.isNone))
  | some (.slice _) => asSl x fun a _ _ => K (.bool (nb neg a.isNone))
  | _ => False
def bsel (c x y : Bool) : Bool :=
  match c with
  | true => x
  | false => y
def pickV (c : Bool) (a b : Value) : Value :=
  match a, b with
  | .bool x, .bool y => .bool (bsel c x y)
  | a, b => match c with
    | true => a
    | false => b
def oNil (P : Program) (x : Value) (h : Hp) (K : Value → Prop) : Prop :=
  match x with
  | .pointer a => nz a fun ad => K (.pointer (some ad))
  | x => oRd P (sNil x) h K
def asAd (v : Value) (K : Addr → Prop) : Prop :=
  match v with
  | .pointer (some ad) => K ad
  | _ => False
def ixA (P : Program) (t : TypeId) (x i : Value) (h : Hp) (K : Addr → Prop) : Prop := oRd P (Instr.indexAt t x i) h fun v => asAd v K
/-! A struct or an array, built of parts. -/
def fieldsAt (P : Program) (t : TypeId) : Option (List (Nat × Nat)) :=
  match P.underlying t with
  | some (.struct fields) => some (fields.toList.map fun f => (f.offset, sizeB P f.type))
  | _ => none
def fillL (pls : List (Nat × Nat)) : List Value → List (Nat × Value) → Option (List Value)
  | cells, [] => some cells
  | cells, (i, v) :: rest => match pls[i]? with
    | none => none
    | some (off, size) => match Nat.beq v.cells.toList.length size && Nat.ble (off + size) cells.length with
      | true => fillL pls (cells.take off ++ (v.cells.toList ++ cells.drop (off + size))) rest
      | false => none
def infoAll (P : Program) (t : TypeId) : Bool :=
  match P.underlying t with
  | some (.struct fields) => fields.toList.all fun f => (P.info? f.type).isSome
  | _ => false
def buildV (P : Program) (t : TypeId) (ps : Array (Nat × Value)) : Option (List Value) :=
  match infoAll P t && hasZero P t with
  | true => match fieldsAt P t with
    | some pls => match zeroOf P t with
      | .agg zs => match big zs.toList.length with
        | false => fillL pls zs.toList ps.toList
        | true => none
      | _ => none
    | none => none
  | false => none

/-- Is a conversion one that makes memory? -/
def makes (P : Program) (d : TypeId) : Bool :=
  match P.underlying d with
  | some (.slice _) => true
  | _ => false

/-- What an operation does, by its kind: it hands a value on; it reads; or else. -/
inductive Cls where
  | mv (v : Value)
  | ro (s : Sem Value)
  | ef
def cls (P : Program) (l : List Value) (o : Oper) : Cls :=
  match o.op with
  | .move x | .assign x => .mv (evalL l x)
  | .pick c a b => .ro (sPick (evalL l c) (evalL l a) (evalL l b))
  | .build t ps => .ro (Instr.build t (mapL l ps))
  | .load t a => .ro (Instr.loadAt t (evalL l a))
  | .nilCheck x => .ro (sNil (evalL l x))
  | .binOp op t x y _ => .ro (sBin op t (isC x || isC y) (evalL l x) (evalL l y))
  | .unOp op _ x => .ro (Op.unary op (evalL l x))
  | .convert s d x => match makes P d with
    | true => .ef
    | false => .ro (convert s d (evalL l x))
  | .makeInterface t x => .ro (Instr.makeInterface t (evalL l x))
  | .makeFunc fn first captured => .ro (Instr.makeFunc fn (argsL l first) (argsL l captured))
  | .slice t x lo hi mx => .ro (Instr.sliceAt t (evalL l x) (lo.map (evalL l)) (hi.map (evalL l)) (mx.map (evalL l)))
  | .fieldAddr s x f => .ro (Instr.fieldAt s (evalL l x) f)
  | .field t x f => .ro (Instr.field t (evalL l x) f)
  | .indexAddr t x i => .ro (Instr.indexAt t (evalL l x) (evalL l i))
  | .index t x i => .ro (Instr.index t (evalL l x) (evalL l i))
  | .typeAssert x t u ok => .ro (Instr.typeAssert (evalL l x) t u ok)
  | .extract t i => .ro (Instr.extract (evalL l t) i)
  | .call { callee := .builtin .len, args, argTypes } => .ro (Builtin.len_ argTypes o.type (argsL l args))
  | .call { callee := .builtin .cap, args, argTypes } => .ro (Builtin.cap_ argTypes o.type (argsL l args))
  | .call { callee := .builtin .min, args, argTypes } => .ro (Builtin.min_ argTypes o.type (argsL l args))
  | .call { callee := .builtin .max, args, argTypes } => .ro (Builtin.max_ argTypes o.type (argsL l args))
  | _ => .ef
/-- A read, stated so that what it comes to is told by the types. -/
def roW (P : Program) (o : Oper) (l : List Value) (s : Sem Value) (h : Hp) (K : Value → Prop) : Prop :=
  match o.op with
  | .pick c a b => asBo (evalL l c) fun c => K (pickV c (evalL l a) (evalL l b))
  | .load t a => ldW P t (evalL l a) h K
  | .nilCheck x => oNil P (evalL l x) h K
  | .fieldAddr .. => oRd P s h fun v => asAd v fun ad => K (.pointer (some ad))
  | .indexAddr t x i => ixA P t (evalL l x) (evalL l i) h fun ad => K (.pointer (some ad))
  | .build t ps => match buildV P t (mapL l ps) with
    | some cs => K (.agg cs.toArray)
    | none => oRd P s h fun v => shape (zeroOf P t) v K
  | .binOp op t x (.const c) _ => match nilForm P op t c with
    | some neg => nlW P t neg (evalL l x) fun v => shape (zeroOf P o.type) v K
    | none => oRd P s h fun v => shape (zeroOf P o.type) v K
  | _ => oRd P s h fun v => shape (zeroOf P o.type) v K
/-- The operations that do more than read. -/
def efW (P : Program) (o : Oper) (l : List Value) (h : Hp) (K : Value → Hp → Prop) : Prop :=
  match o.op with
  | .alloc e => allocW P e h K
  | .box e x => boxW P e (evalL l x) h K
  | .buildSlice t n ps => match P.underlying t with
    | some (.slice e) => match inRow 0 (sizeB P e) (mapL l ps).toList with
      | some cs => match hasZero P e && (Nat.beq (mapL l ps).toList.length n && (Nat.beq cs.length (n * sizeB P e) && Nat.ble (n * sizeB P e) 1000)) with
        | true => nw h (.cells cs.toArray e) fun r h => K (.slice (some ⟨r, 0, none⟩) n n) h
        | false => oAw P (Instr.buildSlice t n (mapL l ps)) h fun v h => shape (zeroOf P t) v fun v => K v h
      | none => oAw P (Instr.buildSlice t n (mapL l ps)) h fun v h => shape (zeroOf P t) v fun v => K v h
    | _ => False
  | .store t a x => stW P t (evalL l a) (evalL l x) h (fun h => K undef h)
  | .convert s d x => oAw P (convert s d (evalL l x)) h fun v h => shape (zeroOf P o.type) v fun v => K v h
  | .makeSlice t a b => oAw P (Instr.makeSlice t (evalL l a) (evalL l b)) h fun v h => shape (zeroOf P o.type) v fun v => K v h
  | .makeMap t r => oAw P (Instr.makeMap t (r.map (evalL l))) h K
  | .mapUpdate t m k x | .insert t m k x => oSt P (Instr.mapUpdate t (evalL l m) (evalL l k) (evalL l x)) h (fun h => K undef h)
  | .lookup t x i ok => oAw P (Instr.lookup t (evalL l x) (evalL l i) ok) h fun v h => shape (zeroOf P o.type) v fun v => K v h
  | .range t x => oAw P (Instr.range t (evalL l x)) h K
  | .next it s => oAw P (Instr.next (evalL l it) s o.type) h fun v h => shape (zeroOf P o.type) v fun v => K v h
  | .call { callee := .value (.func f), args, .. } => Spec P f (argsL l args) h fun v h => shape (zeroOf P o.type) v fun v => K v h
  | .call { callee := .value f, args, .. } => oVal P (evalL l f) (argsL l args) h fun v h => shape (zeroOf P o.type) v fun v => K v h
  | .call { callee := .invoke r m, args, .. } => oNx P (callMethod (evalL l r) m (argsL l args)) h fun v h => shape (zeroOf P o.type) v fun v => K v h
  | .call { callee := .builtin b, args, argTypes } => oNx P (builtin b argTypes o.type (flags args) (argsL l args)) h fun v h => shape (zeroOf P o.type) v fun v => K v h
  | _ => False
def opW (P : Program) (o : Oper) (l : List Value) (h : Hp) (K : Value → Hp → Prop) : Prop :=
  match cls P l o with
  | .mv v => K v h
  | .ro s => roW P o l s h fun v => K v h
  | .ef => efW P o l h K

/-! ### They are the model's -/
theorem evalL_act (a : Act) : evalL a.tmps.toList = a.eval := by
  funext x
  cases x with
  | tmp t => simp [evalL, Act.eval]
  | const v => rfl
  | global g => rfl
  | func f => rfl
theorem mapL_eq (l : List Value) (ps : Array (Nat × Operand)) : mapL l ps = ps.map fun (i, x) => (i, evalL l x) := by
  unfold mapL; apply Array.ext'; simp
theorem argsL_eq (l : List Value) (xs : Array Operand) : argsL l xs = xs.map (evalL l) := by
  unfold argsL; apply Array.ext'; simp
theorem flags_eq (xs : Array Operand) : flags xs = xs.map fun | .const _ => true | _ => false := by
  unfold flags; apply Array.ext'; simp
  intro a _
  cases a <;> rfl
theorem putL_put (a : Act) (dst : Option Tmp) (v : Value) : (a.put dst v).tmps.toList = putL a.tmps.toList dst v := by
  cases dst <;> simp [Act.put, putL]
theorem put_defers (a : Act) (dst : Option Tmp) (v : Value) : (a.put dst v).defers = a.defers := by cases dst <;> rfl
theorem putL_length (l : List Value) (dst : Option Tmp) (v : Value) : (putL l dst v).length = l.length := by cases dst <;> simp [putL]
theorem eqGuard_flags (op : BinOp) (t : TypeId) (x y : Operand) (a b : Value) :
    eqGuard op t x y a b = eqGuard op t (match isC x || isC y with | true => .const undef | false => .tmp 0) (.tmp 0) a b := by
  cases x <;> cases y <;> rfl

/-- An operation that makes a value: the shape of 'execOp'. -/
def vs (s : Sem Value) : Sem Next := s.bind fun v => .pure (.value v)
def us (s : Sem Unit) : Sem Next := s.bind fun _ => .pure .skip

theorem exec_cls {P : Program} {l : List Value} {o : Oper} {s : Sem Value} (hc : cls P l o = .ro s) (h : Hp) (v : Value) (hr : rd P s h = some v) :
    rd P (execOp (evalL l) o) h = some (.value v) := by
  obtain ⟨dst, op, type, pos, after, guard⟩ := o
  have hv : ∀ s' : Sem Value, s' = s → rd P (s'.bind fun v => .pure (.value v) : Sem Next) h = some (.value v) := by
    intro s' e; subst e; rw [rd_bind, hr]; rfl
  cases op with
  | pick c a b => simp only [cls, Cls.ro.injEq] at hc; subst hc
                  cases hcv : evalL l c <;> simp [sPick, hcv, asBool, stuck, rd, Bind.bind, Sem.bind, Pure.pure] at hr
                  simp [execOp, hcv, asBool, Bind.bind, Sem.bind, Pure.pure, rd, hr]
  | build t ps => simp only [cls, Cls.ro.injEq] at hc; rw [mapL_eq] at hc; exact hv _ hc
  | load t a => simp only [cls, Cls.ro.injEq] at hc; exact hv _ hc
  | nilCheck x =>
    simp only [cls, Cls.ro.injEq] at hc; subst hc
    simp only [execOp]
    generalize evalL l x = y at *
    unfold sNil at hr
    split at hr
    · have hr' : (none : Option Value) = some v := hr
      cases hr'
    · have hr' : (none : Option Value) = some v := hr
      cases hr'
    · have hr' : (none : Option Value) = some v := hr
      cases hr'
    · cases hr
    · rename_i h1 h2 h3 h4
      have e : y = v := by simpa [rd, Pure.pure] using hr
      split
      · exact absurd rfl h1
      · exact absurd rfl h2
      · exact absurd rfl h3
      · exact absurd rfl (h4 _ _ _)
      · exact congrArg (fun z => some (Next.value z)) e
  | binOp op t x y u =>
    simp only [cls, Cls.ro.injEq] at hc
    refine hv (do eqGuard op t x y (evalL l x) (evalL l y); binOp op t (evalL l x) (evalL l y)) ?_
    rw [← hc]; unfold sBin; rw [eqGuard_flags]
  | unOp op t x => simp only [cls, Cls.ro.injEq] at hc; exact hv _ hc
  | convert s d x =>
    simp only [cls] at hc
    split at hc
    · cases hc
    · simp only [Cls.ro.injEq] at hc; exact hv _ hc
  | makeInterface t x => simp only [cls, Cls.ro.injEq] at hc; exact hv _ hc
  | makeFunc fn first captured => simp only [cls, Cls.ro.injEq] at hc; rw [argsL_eq, argsL_eq] at hc; exact hv _ hc
  | slice t x lo hi mx => simp only [cls, Cls.ro.injEq] at hc; exact hv _ hc
  | fieldAddr s x f => simp only [cls, Cls.ro.injEq] at hc; exact hv _ hc
  | field t x f => simp only [cls, Cls.ro.injEq] at hc; exact hv _ hc
  | indexAddr t x i => simp only [cls, Cls.ro.injEq] at hc; exact hv _ hc
  | index t x i => simp only [cls, Cls.ro.injEq] at hc; exact hv _ hc
  | typeAssert x t u ok => simp only [cls, Cls.ro.injEq] at hc; exact hv _ hc
  | extract t i => simp only [cls, Cls.ro.injEq] at hc; exact hv _ hc
  | call c =>
    obtain ⟨callee, args, argTypes⟩ := c
    cases callee with
    | builtin b =>
      cases b <;> first
        | (simp only [cls, Cls.ro.injEq] at hc; rw [argsL_eq] at hc
           simp only [execOp, resolve, invoke, builtin, Bind.bind, Pure.pure, Sem.bind]
           exact hv _ hc)
        | cases hc
    | value f => cases f <;> cases hc
    | invoke r m => cases hc
  | _ => cases hc

theorem exec_mv {P : Program} {l : List Value} {o : Oper} {v : Value} (hc : cls P l o = .mv v) : execOp (evalL l) o = .pure (.value v) := by
  obtain ⟨dst, op, type, pos, after, guard⟩ := o
  cases op with
  | move x => simp only [cls, Cls.mv.injEq] at hc; subst hc; rfl
  | assign x => simp only [cls, Cls.mv.injEq] at hc; subst hc; rfl
  | convert s d x => simp only [cls] at hc; split at hc <;> cases hc
  | call c =>
    obtain ⟨callee, args, argTypes⟩ := c
    cases callee with
    | builtin b => cases b <;> cases hc
    | value f => cases f <;> cases hc
    | invoke r m => cases hc
  | _ => cases hc


/-- What an operation's run leads to, off its weakest precondition. -/
theorem upon_aw {P : Program} {o : Oper} {a : Act} {w : World} {s : Sem Next} {K : Value → Hp → Prop} {next : Act → World → Prop} {Q : Exit → Act → World → Prop}
    (he : execOp a.eval o = s) (h : aw P s (Nx P K) (hp w)) (hn : ∀ v w', K v (hp w') → Same w w' → next (a.put o.dst v) w') : o.wp P a w next Q := by
  unfold Oper.wp
  rw [he]
  obtain ⟨x, w', hr, hx, hS⟩ := aw_sound P s _ w h
  rw [hr]
  cases x with
  | value v => exact hn v w' hx hS
  | skip => exact hn undef w' hx hS
  | enter f args =>
    simp only [Oper.upon]
    refine (hx w' rfl).mono fun e w'' hh => ?_
    obtain ⟨v, rfl, hK, hS'⟩ := hh
    exact hn v w'' hK (hS.trans hS')
  | _ => exact hx.elim

theorem aw_vs {P : Program} {s : Sem Value} {K : Value → Hp → Prop} {h : Hp} (H : aw P s K h) : aw P (vs s) (Nx P K) h :=
  (aw_bind P s _ _ h).2 H
theorem aw_us {P : Program} {s : Sem Unit} {K : Value → Hp → Prop} {h : Hp} (H : aw P s (fun _ h => K undef h) h) : aw P (us s) (Nx P K) h :=
  (aw_bind P s _ _ h).2 H


/-! ### The typed forms are the model's -/
theorem aw_bind' {α β : Type} {P : Program} {s : Sem α} {f : α → Sem β} {K : β → Hp → Prop} {h : Hp} (H : aw P s (fun a h => aw P (f a) K h) h) : aw P (s >>= f) K h :=
  (aw_bind P s f K h).2 H
theorem aw_info {P : Program} {t : TypeId} {i : TypeInfo} {K : TypeInfo → Hp → Prop} {h : Hp} (hi : P.info? t = some i) (H : K i h) : aw P (typeInfo t) K h := by
  unfold typeInfo
  refine aw_bind' ?_
  simp only [program, aw, hi, Pure.pure]
  exact H
theorem aw_und {P : Program} {t : TypeId} {d : TypeDesc} {K : TypeDesc → Hp → Prop} {h : Hp} (hi : P.underlying t = some d) (H : K d h) : aw P (underlying t) K h := by
  unfold underlying
  refine aw_bind' ?_
  simp only [program, aw, hi, Pure.pure]
  exact H
theorem info_of_und {P : Program} {t : TypeId} {d : TypeDesc} (h : P.underlying t = some d) : ∃ i, P.info? t = some i := by
  unfold Program.underlying at h
  cases hi : P.info? t with
  | none => simp [hi] at h
  | some i => exact ⟨i, rfl⟩
theorem sizeB_eq {P : Program} {t : TypeId} {i : TypeInfo} (h : P.info? t = some i) : sizeB P t = i.size := by simp [sizeB, h]
theorem aw_size {P : Program} {t : TypeId} {i : TypeInfo} {K : Nat → Hp → Prop} {h : Hp} (hi : P.info? t = some i) (H : K (sizeB P t) h) : aw P (sizeOf t) K h := by
  unfold sizeOf
  refine aw_bind' (aw_info hi ?_)
  simp only [aw, Pure.pure]
  rw [← sizeB_eq hi]; exact H
theorem rd_info {P : Program} {t : TypeId} {i : TypeInfo} {h : Hp} (hi : P.info? t = some i) : rd P (typeInfo t) h = some i := by
  unfold typeInfo
  change rd P (Sem.bind program _) h = _
  rw [rd_bind]
  simp only [program, rd, Option.bind_some, hi]
  rfl
theorem rd_und {P : Program} {t : TypeId} {h : Hp} : rd P (underlying t) h = P.underlying t := by
  unfold underlying
  change rd P (Sem.bind program _) h = _
  rw [rd_bind]
  simp only [program, rd, Option.bind_some]
  cases P.underlying t <;> rfl
theorem rd_size {P : Program} {t : TypeId} {i : TypeInfo} {h : Hp} (hi : P.info? t = some i) : rd P (sizeOf t) h = some (sizeB P t) := by
  unfold sizeOf
  change rd P (Sem.bind (typeInfo t) _) h = _
  rw [rd_bind, rd_info hi, sizeB_eq hi]
  rfl
theorem rd_agg {P : Program} {t : TypeId} {d : TypeDesc} {h : Hp} (hd : P.underlying t = some d) : rd P (isAgg t) h = some (aggB P t) := by
  unfold isAgg aggB
  change rd P (Sem.bind (underlying t) _) h = _
  rw [rd_bind, rd_und, hd]
  cases d <;> rfl

theorem allocW_aw {P : Program} {e : TypeId} {h : Hp} {K : Value → Hp → Prop} (H : allocW P e h K) : aw P (Instr.alloc e true (.tuple #[])) K h := by
  unfold allocW at H
  split at H
  · rename_i z hz
    cases hi : P.info? e with
    | none => simp [hi] at hz
    | some i =>
      simp only [hi, Option.bind_some] at hz
      unfold Instr.alloc zeroValue
      refine aw_bind' (aw_bind' (aw_info hi ?_))
      simp only [hz]
      exact fun r hr => H r hr
  · exact H.elim
theorem cells_plain {v : Value} (h : flatV v = true) : v.cells = #[v] := by cases v <;> first | rfl | cases h
theorem boxW_aw {P : Program} {e : TypeId} {v : Value} {h : Hp} {K : Value → Hp → Prop} (H : boxW P e v h K) : aw P (Instr.box e v) K h := by
  unfold boxW at H
  split at H
  · exact fun r hr => H r hr
  · unfold pl at H
    split at H
    · rename_i hv
      intro r hr
      have := H r hr
      rw [← cells_plain hv] at this
      exact this
    · exact H.elim

theorem st_aw {P : Program} {ad : Addr} {v : Value} {h : Hp} {K : Unit → Hp → Prop} (H : st h ad v (K ())) : aw P (store ad v) K h := by
  unfold st pl at H
  split at H
  · rename_i hv
    simp only [store, aw]
    cases hb : h ad.block with
    | none => rw [hb] at H; exact H.elim
    | some o =>
      rw [hb] at H
      cases o <;> first
        | exact ⟨hv, H.1.1, H.1.2.1, H.1.2.2, H.2⟩
        | exact H.elim
  · exact H.elim
theorem stL_aw {P : Program} {ad : Addr} {K : Unit → Hp → Prop} : ∀ {l : List Value} {h : Hp} {i : Nat}, stL l h ad i (K ()) → aw P (storeCells ad l i) K h
  | [], _, _, H => H
  | c :: r, h, i, H => by
    unfold storeCells
    exact aw_bind' (st_aw (K := fun _ h' => aw P (storeCells ad r (i + 1)) K h') (st_mono (fun h' hh => stL_aw hh) H))
where
  st_mono {h : Hp} {ad : Addr} {v : Value} {K K' : Hp → Prop} (hk : ∀ h, K h → K' h) (H : st h ad v K) : st h ad v K' := by
    unfold st pl at H ⊢
    cases hv : flatV v with
    | false => rw [hv] at H; exact H
    | true =>
      rw [hv] at H
      dsimp only at H ⊢
      cases hb : h ad.block with
      | none => rw [hb] at H; exact H
      | some o => rw [hb] at H; cases o <;> first | exact ⟨H.1, hk _ H.2⟩ | exact H
theorem info_of_size {P : Program} {t : TypeId} {n : Nat} (h : sizeB P t = n + 1) : ∃ i, P.info? t = some i := by
  unfold sizeB at h
  cases hi : P.info? t with
  | none => simp [hi] at h
  | some i => exact ⟨i, rfl⟩
theorem info_of_agg {P : Program} {t : TypeId} (h : aggB P t = true) : ∃ i, P.info? t = some i := by
  unfold aggB at h
  cases hu : P.underlying t with
  | none => simp [hu] at h
  | some d => exact info_of_und hu
theorem stW_aw {P : Program} {t : TypeId} {x v : Value} {h : Hp} {K : Hp → Prop} (H : stW P t x v h K) : oSt P (Instr.storeAt t x v) h K := by
  unfold stW at H
  split at H
  · rename_i ad
    split at H
    · split at H
      · rename_i hs
        have hs' : sizeB P t = 1 := Nat.eq_of_beq_eq_true hs
        obtain ⟨i, hi⟩ := info_of_size hs'
        unfold oSt Instr.storeAt
        refine aw_bind' ?_
        simp only [Instr.sureAddr, aw, Pure.pure]
        unfold storeVar
        have hp : flatV v = true := by
          unfold st pl at H
          split at H
          · rename_i hv; exact hv
          · exact H.elim
        refine aw_bind' (aw_size hi ?_)
        simp only [cells_plain hp, hs', List.size_toArray, List.length_cons, List.length_nil, Nat.zero_add, ne_eq, not_true_eq_false, if_false]
        refine aw_bind' ?_
        refine stL_aw (K := fun _ h => K h) (l := [v]) (i := 0) ?_
        exact H
      · exact H
    · rename_i ha
      obtain ⟨i, hi⟩ := info_of_agg ha
      split at H
      · split at H
        · rename_i cs
          split at H
          · rename_i hs
            have hs' := Nat.eq_of_beq_eq_true hs
            unfold oSt Instr.storeAt
            refine aw_bind' ?_
            simp only [Instr.sureAddr, aw, Pure.pure]
            unfold storeVar
            refine aw_bind' (aw_size hi ?_)
            have h1 : (Value.agg cs).cells.size = sizeB P t := by simpa [Value.cells] using hs'
            simp only [h1, ne_eq, not_true_eq_false, if_false]
            exact stL_aw (K := fun _ h => K h) H
          · exact H.elim
        · exact H.elim
      · exact H
  · exact H.elim

theorem rd_pure' {α : Type} {P : Program} {h : Hp} (a : α) : rd P (Pure.pure a : Sem α) h = some a := rfl
theorem splice_list (off : Nat) : ∀ (l : List Value) (j : Nat) (cells : Array Value) (pre rest : List Value), cells.toList = pre ++ rest → pre.length = off + j → l.length ≤ rest.length →
    ((l.zipIdx j).foldl (fun cs (x : Value × Nat) => cs.setIfInBounds (off + x.2) x.1) cells).toList = pre ++ l ++ rest.drop l.length := by
  intro l
  induction l with
  | nil => intro j cells pre rest h _ _; simpa using h
  | cons c l ih =>
    intro j cells pre rest h hp hl
    cases rest with
    | nil => simp at hl
    | cons r rest =>
      simp only [List.zipIdx_cons, List.foldl_cons]
      have h1 : (cells.setIfInBounds (off + j) c).toList = (pre ++ [c]) ++ rest := by
        rw [Array.toList_setIfInBounds, h, ← hp]
        simp
      rw [ih (j + 1) _ (pre ++ [c]) rest h1 (by simp [hp]; omega) (by simpa using hl)]
      simp
theorem roW_sound {P : Program} {o : Oper} {l : List Value} {s : Sem Value} {h : Hp} {K : Value → Prop} (hc : cls P l o = .ro s) (H : roW P o l s h K) : ∃ v, rd P s h = some v ∧ K v := by
  have gen : ∀ K' : Value → Prop, (∀ v, K' v → K v) → oRd P s h K' → ∃ v, rd P s h = some v ∧ K v := by
    intro K' hk H
    unfold oRd at H
    split at H
    · rename_i v hv; exact ⟨v, hv, hk _ H⟩
    · exact H.elim
  obtain ⟨dst, op, type, pos, after, guard⟩ := o
  cases op with
  | pick c a b =>
    simp only [cls, Cls.ro.injEq] at hc; subst hc
    simp only [roW] at H
    unfold asBo at H
    split at H
    · rename_i b' hb
      refine ⟨_, ?_, H⟩
      rw [hb]
      unfold sPick
      simp only [asBool, Bind.bind, Sem.bind, Pure.pure, rd, Option.some.injEq]
      unfold pickV
      generalize evalL l a = va
      generalize evalL l b = vb
      cases va <;> cases vb <;> cases b' <;> rfl
    · exact H.elim
  | load t a =>
    simp only [cls, Cls.ro.injEq] at hc; subst hc
    simp only [roW] at H
    unfold ldW at H
    split at H
    · rename_i ad hx
      rw [hx]
      split at H
      · rename_i ha
        split at H
        · rename_i d hd
          unfold ld at H
          split at H
          · rename_i v hv
            refine ⟨v, ?_, shp_ok H⟩
            unfold Instr.loadAt
            change rd P (Sem.bind (Sem.pure ad) _) h = _
            rw [rd_bind]
            simp only [rd, Option.bind_some]
            unfold loadVar
            change rd P (Sem.bind (isAgg t) _) h = _
            rw [rd_bind, rd_agg hd, ha]
            simp [rd, Go.load, hv]
          · exact H.elim
        · exact H.elim
      · rename_i ha
        split at H
        · rename_i hs
          simp only [Bool.and_eq_true] at hs
          have hs' := Nat.eq_of_beq_eq_true hs.1
          obtain ⟨i, hi⟩ := info_of_agg ha
          have hd : ∃ d, P.underlying t = some d := by
            unfold aggB at ha
            cases hu : P.underlying t with
            | none => simp [hu] at ha
            | some d => exact ⟨d, rfl⟩
          obtain ⟨d, hd⟩ := hd
          have key : ∀ (zs : List Value) (i : Nat) (acc : List Value), ldL zs h ad i acc (fun l => K (.agg l.toArray)) →
              ∃ l, rd P (loadCellsFrom ad i zs.length acc.toArray) h = some l ∧ K (.agg l) := by
            intro zs
            induction zs with
            | nil => intro i acc H; exact ⟨acc.toArray, rfl, H⟩
            | cons z zs ih =>
              intro i acc H
              simp only [ldL] at H
              unfold ld at H
              split at H
              · rename_i v hv
                have H' := shp_ok (K := fun v => ldL zs h ad (i + 1) (acc ++ [v]) fun l => K (.agg l.toArray)) H
                obtain ⟨l, h1, h2⟩ := ih _ _ H'
                refine ⟨l, ?_, h2⟩
                simp only [List.length_cons, loadCellsFrom]
                change rd P (Sem.bind (Go.load (ad.add i)) _) h = _
                rw [rd_bind]
                simp only [Go.load, rd, hv, Option.bind_some]
                rw [← h1]
                simp
              · exact H.elim
          obtain ⟨l, h1, h2⟩ := key _ 0 [] H
          refine ⟨.agg l, ?_, h2⟩
          unfold Instr.loadAt
          change rd P (Sem.bind (Sem.pure ad) _) h = _
          rw [rd_bind]
          simp only [rd, Option.bind_some]
          unfold loadVar
          change rd P (Sem.bind (isAgg t) _) h = _
          rw [rd_bind, rd_agg hd, ha]
          simp only [Option.bind_some, if_true]
          change rd P (Sem.bind (sizeOf t) _) h = _
          rw [rd_bind, rd_size hi]
          simp only [Option.bind_some]
          change rd P (Sem.bind (loadCells ad (sizeB P t)) _) h = _
          rw [rd_bind]
          unfold loadCells
          rw [← hs', h1]
          rfl
        · rw [hx] at gen; exact gen K (fun _ h => h) H
    · exact H.elim
  | nilCheck x =>
    simp only [cls, Cls.ro.injEq] at hc; subst hc
    simp only [roW] at H
    unfold oNil at H
    split at H
    · rename_i a hx
      rw [hx]
      unfold nz at H
      split at H
      · exact ⟨_, rfl, H⟩
      · exact H.elim
    · exact gen K (fun _ h => h) H
  | fieldAddr t x f =>
    refine gen _ ?_ H
    intro v hv
    unfold asAd at hv
    split at hv <;> first | exact hv | exact hv.elim
  | indexAddr t x f =>
    simp only [cls, Cls.ro.injEq] at hc; subst hc
    refine gen _ ?_ H
    intro v hv
    unfold asAd at hv
    split at hv <;> first | exact hv | exact hv.elim
  | build t ps =>
    simp only [cls, Cls.ro.injEq] at hc; subst hc
    simp only [roW] at H
    split at H
    · rename_i cs hb
      exact ⟨_, build_sound hb, H⟩
    · exact gen _ (fun v hv => shape_ok hv) H
  | binOp op t x y u =>
    simp only [cls, Cls.ro.injEq] at hc
    cases y with
    | const c =>
      simp only [roW] at H
      cases hn : nilForm P op t c with
      | none => rw [hn] at H; exact gen _ (fun v hv => shape_ok hv) H
      | some neg =>
        rw [hn] at H
        subst hc
        obtain ⟨v, h1, h2⟩ := nl_sound hn H
        refine ⟨v, ?_, shape_ok h2⟩
        simpa [isC, evalL] using h1
    | _ => exact gen _ (fun v hv => shape_ok hv) H
  | _ => exact gen _ (fun v hv => shape_ok hv) H
where
  build_sound {P : Program} {t : TypeId} {ps : Array (Nat × Value)} {h : Hp} {cs : List Value} (hb : buildV P t ps = some cs) : rd P (Instr.build t ps) h = some (.agg cs.toArray) := by
    unfold buildV at hb
    split at hb
    · rename_i hz
      simp only [Bool.and_eq_true] at hz
      split at hb
      · rename_i pls hpls
        split at hb
        · rename_i zs hzs
          split at hb
          · unfold Instr.build
            unfold fieldsAt at hpls
            split at hpls
            · rename_i fields hu
              simp only [Option.some.injEq] at hpls
              obtain ⟨i, hi⟩ := info_of_und hu
              have hzero : i.zero = some (.agg zs) := by
                have h1 := hz.2
                unfold hasZero at h1
                unfold zeroOf at hzs
                rw [hi] at h1 hzs
                simp only [Option.bind_some] at h1
                dsimp only at hzs
                cases hi0 : i.zero with
                | none => simp [hi0] at h1
                | some z => rw [hi0] at hzs; dsimp only at hzs; rw [hzs]
              change rd P (Sem.bind (zeroValue t) _) h = _
              have hzv : rd P (zeroValue t) h = some (.agg zs) := by
                unfold zeroValue
                change rd P (Sem.bind (typeInfo t) _) h = _
                rw [rd_bind, rd_info hi]
                simp only [Option.bind_some, hzero]
                rfl
              rw [rd_bind, hzv]
              simp only [Option.bind_some]
              change rd P (Sem.bind (underlying t) _) h = _
              rw [rd_bind, rd_und, hu]
              simp only [Option.bind_some]
              have hmap : rd P (fields.mapM fun f => do pure (f.offset, ← sizeOf f.type)) h = some (fields.toList.map fun f => (f.offset, sizeB P f.type)).toArray := by
                rw [Array.mapM_eq_mapM_toList]
                have hall : ∀ f ∈ fields.toList, (P.info? f.type).isSome = true := by
                  have h1 := hz.1
                  unfold infoAll at h1
                  rw [hu] at h1
                  exact List.all_eq_true.1 h1
                have key : ∀ fs : List Field, (∀ f ∈ fs, (P.info? f.type).isSome = true) → rd P (fs.mapM fun f => (do pure (f.offset, ← sizeOf f.type) : Sem (Nat × Nat))) h = some (fs.map fun f => (f.offset, sizeB P f.type)) := by
                  intro fs
                  induction fs with
                  | nil => intro _; rfl
                  | cons f fs ih =>
                    intro hf
                    rw [List.mapM_cons]
                    obtain ⟨j, hj⟩ := Option.isSome_iff_exists.1 (hf f (List.mem_cons_self ..))
                    change rd P (Sem.bind (Sem.bind (sizeOf f.type) _) _) h = _
                    rw [rd_bind, rd_bind, rd_size hj]
                    simp only [Option.bind_some, rd_pure']
                    change rd P (Sem.bind (List.mapM _ fs) _) h = _
                    rw [rd_bind, ih (fun f' h' => hf f' (List.mem_cons_of_mem _ h'))]
                    rfl
                change rd P (Functor.map List.toArray (fields.toList.mapM _)) h = _
                rw [map_eq_pure_bind]
                change rd P (Sem.bind _ _) h = _
                rw [rd_bind, key _ hall]
                rfl
              change rd P (Sem.bind (fields.mapM _) _) h = _
              rw [rd_bind, hmap]
              simp only [Option.bind_some]
              have hfill : ∀ (parts : List (Nat × Value)) (cells : Array Value) (out : List Value), fillL pls cells.toList parts = some out →
                  Instr.fill (fun i => pls[i]?) cells parts = some out.toArray := by
                intro parts
                induction parts with
                | nil => intro cells out ho; simp only [fillL, Option.some.injEq] at ho; subst ho; simp [Instr.fill]
                | cons x parts ih =>
                  obtain ⟨j, v⟩ := x
                  intro cells out ho
                  simp only [fillL] at ho
                  simp only [Instr.fill]
                  cases hj : pls[j]? with
                  | none => simp [hj] at ho
                  | some os =>
                    obtain ⟨off, size⟩ := os
                    rw [hj] at ho
                    dsimp only at ho ⊢
                    split at ho
                    · rename_i hbb
                      simp only [Bool.and_eq_true] at hbb
                      have h1 := Nat.eq_of_beq_eq_true hbb.1
                      have h2 := Nat.le_of_ble_eq_true hbb.2
                      have hvs : v.cells.size = size := by simpa using h1
                      rw [Array.length_toList] at h2
                      have hcond : (v.cells.size ≠ size || off + v.cells.size > cells.size) = false := by
                        simp [hvs]; omega
                      rw [if_neg (by rw [hcond]; simp)]
                      refine ih _ _ ?_
                      rw [← ho]
                      congr 1
                      rw [← Array.foldl_toList, Array.toList_zipIdx]
                      have hsp := splice_list off v.cells.toList 0 cells (cells.toList.take off) (cells.toList.drop off) (List.take_append_drop off _).symm
                        (by rw [List.length_take, Array.length_toList]; omega) (by rw [h1, List.length_drop, Array.length_toList]; omega)
                      rw [h1, List.drop_drop] at hsp
                      rw [← List.append_assoc]
                      exact hsp
                    · cases ho
              subst hpls
              have := hfill ps.toList zs cs hb
              simp only [List.getElem?_toArray, Value.cells]
              rw [this]
              rfl
            · cases hpls
          · cases hb
        · cases hb
      · cases hb
    · cases hb
  nl_sound {P : Program} {op : BinOp} {t : TypeId} {c x : Value} {neg : Bool} {h : Hp} {K : Value → Prop} (hn : nilForm P op t c = some neg) (H : nlW P t neg x K) :
      ∃ v, rd P (sBin op t true x c) h = some v ∧ K v := by
    have eq : ∀ (d : TypeDesc) (r : Bool) (x c : Value), P.underlying t = some d → (∀ h, rd P (Op.equalIn (9999 + 1) t x c) h = some r) →
        (∀ h, rd P (eqGuard op t (.const undef) (.tmp 0) x c) h = some ()) → (op = .eql → binOp op t x c = (do pure (.bool (← Op.equal t x c)))) →
        (op = .neq → binOp op t x c = (do pure (.bool (!(← Op.equal t x c))))) → (op = .eql ∨ op = .neq) →
        rd P (sBin op t true x c) h = some (.bool (nb (op == .neq) r)) := by
      intro d r x c hd he hg h1 h2 ho
      unfold sBin
      change rd P (Sem.bind (eqGuard op t (.const undef) (.tmp 0) x c) _) h = _
      rw [rd_bind, hg]
      simp only [Option.bind_some]
      rcases ho with rfl | rfl
      · rw [h1 rfl]
        change rd P (Sem.bind (Op.equalIn (9999 + 1) t x c) _) h = _
        rw [rd_bind, he]; rfl
      · rw [h2 rfl]
        change rd P (Sem.bind (Op.equalIn (9999 + 1) t x c) _) h = _
        rw [rd_bind, he]; rfl
    have eqIn : ∀ (d : TypeDesc) (f : TypeDesc → Sem Bool) (r : Bool), P.underlying t = some d → (∀ h, rd P (f d) h = some r) → ∀ h, rd P (Sem.bind (underlying t) f) h = some r := by
      intro d f r hd hf h
      rw [rd_bind, rd_und, hd]; exact hf h
    have hop : op = .eql ∧ neg = false ∨ op = .neq ∧ neg = true := by
      unfold nilForm at hn
      split at hn
      · split at hn <;> first | (split at hn <;> first | (cases hn; exact .inl ⟨rfl, rfl⟩) | cases hn) | cases hn
      · split at hn <;> first | (split at hn <;> first | (cases hn; exact .inr ⟨rfl, rfl⟩) | cases hn) | cases hn
      · cases hn
    have hneg : neg = (op == .neq) := by rcases hop with ⟨rfl, rfl⟩ | ⟨rfl, rfl⟩ <;> rfl
    have ho : op = .eql ∨ op = .neq := by rcases hop with ⟨rfl, _⟩ | ⟨rfl, _⟩ <;> simp
    have hc : (∃ ms, P.underlying t = some (.interface ms) ∧ c = .nilIface) ∨ (∃ e, P.underlying t = some (.pointer e) ∧ c = .pointer none) ∨ (∃ e n m, P.underlying t = some (.slice e) ∧ c = .slice none n m) := by
      have fin : ∀ b : Bool, (match P.underlying t with
          | some (.interface _) => match isNilIface c with | true => some b | false => none
          | some (.pointer _) => match isNilPt c with | true => some b | false => none
          | some (.slice _) => match isNilSl c with | true => some b | false => none
          | _ => none) = some neg → (∃ ms, P.underlying t = some (.interface ms) ∧ c = .nilIface) ∨ (∃ e, P.underlying t = some (.pointer e) ∧ c = .pointer none) ∨ (∃ e n m, P.underlying t = some (.slice e) ∧ c = .slice none n m) := by
        intro b hb
        split at hb
        · rename_i ms hu
          split at hb
          · rename_i hi
            left
            refine ⟨ms, hu, ?_⟩
            unfold isNilIface at hi
            split at hi
            · rfl
            · cases hi
          · cases hb
        · rename_i e hu
          split at hb
          · rename_i hi
            right; left
            refine ⟨e, hu, ?_⟩
            unfold isNilPt at hi
            split at hi
            · rfl
            · cases hi
          · cases hb
        · rename_i e hu
          split at hb
          · rename_i hi
            right; right
            unfold isNilSl at hi
            split at hi
            · exact ⟨e, _, _, hu, rfl⟩
            · cases hi
          · cases hb
        · cases hb
      unfold nilForm at hn
      split at hn
      · exact fin _ hn
      · exact fin _ hn
      · cases hn
    rw [hneg] at H
    unfold nlW at H
    rcases hc with ⟨ms, hu, rfl⟩ | ⟨e, hu, rfl⟩ | ⟨e, n, m, hu, rfl⟩
    · rw [hu] at H
      dsimp only at H
      split at H
      · refine ⟨_, eq _ true .nilIface .nilIface hu (fun h => eqIn _ _ true hu (fun h => rfl) h) ?_ (fun e => by subst e; rfl) (fun e => by subst e; rfl) ho, H⟩
        intro h
        rcases ho with rfl | rfl <;> rfl
      · refine ⟨_, eq _ false (.iface _ _) .nilIface hu (fun h => eqIn _ _ false hu (fun h => rfl) h) ?_ (fun e => by subst e; rfl) (fun e => by subst e; rfl) ho, H⟩
        intro h
        rcases ho with rfl | rfl <;> rfl
      · exact H.elim
    · rw [hu] at H
      dsimp only [asPt] at H
      split at H
      · rename_i a
        refine ⟨_, eq _ a.isNone (.pointer a) (.pointer none) hu (fun h => eqIn _ _ a.isNone hu (fun h => by cases a <;> rfl) h) ?_ (fun e => by subst e; rfl) (fun e => by subst e; rfl) ho, H⟩
        intro h
        rcases ho with rfl | rfl <;> rfl
      · exact H.elim
    · rw [hu] at H
      dsimp only [asSl] at H
      split at H
      · rename_i a n' m'
        refine ⟨_, eq _ a.isNone (.slice a n' m') (.slice none n m) hu (fun h => eqIn _ _ a.isNone hu (fun h => by cases a <;> rfl) h) ?_ (fun e => by subst e; rfl) (fun e => by subst e; rfl) ho, H⟩
        intro h
        rcases ho with rfl | rfl <;> rfl
      · exact H.elim

theorem upon_spec {P : Program} {o : Oper} {a : Act} {w : World} {f : FuncId} {args : Array Value} {K : Value → Hp → Prop} {next : Act → World → Prop} {Q : Exit → Act → World → Prop}
    (he : execOp a.eval o = callFunc f args) (h : Spec P f args (hp w) K) (hn : ∀ v w', K v (hp w') → Same w w' → next (a.put o.dst v) w') : o.wp P a w next Q := by
  unfold Oper.wp
  rw [he, h.1 w]
  simp only [Oper.upon]
  refine (h.2 w rfl).mono fun e w'' hh => ?_
  obtain ⟨v, rfl, hK, hS'⟩ := hh
  exact hn v w'' hK hS'

theorem aw_shape {P : Program} {s : Sem Value} {z : Value} {h : Hp} {K : Value → Hp → Prop} (H : oAw P s h fun v h => shape z v fun v => K v h) : aw P s K h :=
  aw_mono (fun v h hv => shape_ok hv) H
theorem fill_row (size : Nat) : ∀ (parts : List (Nat × Value)) (i : Nat) (cs : List Value) (cells : Array Value) (pre rest : List Value), inRow i size parts = some cs →
    cells.toList = pre ++ rest → pre.length = i * size → rest.length = cs.length →
    Instr.fill (fun i => some (i * size, size)) cells parts = some (pre ++ cs).toArray := by
  intro parts
  induction parts with
  | nil =>
    intro i cs cells pre rest h hc hp hl
    simp only [inRow, Option.some.injEq] at h
    subst h
    have : rest = [] := by simpa using hl
    subst this
    simp only [Instr.fill, ← hc]
  | cons x parts ih =>
    obtain ⟨j, v⟩ := x
    intro i cs cells pre rest h hc hp hl
    simp only [inRow] at h
    split at h
    · rename_i hb
      simp only [Bool.and_eq_true] at hb
      have hij := Nat.eq_of_beq_eq_true hb.1
      have hsz := Nat.eq_of_beq_eq_true hb.2
      subst hij
      split at h
      · rename_i l hl'
        simp only [Option.some.injEq] at h
        subst h
        have hvs : v.cells.size = size := by simpa using hsz
        have hlen : rest.length = size + l.length := by rw [hl, List.length_append, hsz]
        have hcs : cells.size = pre.length + rest.length := by rw [← Array.length_toList, hc, List.length_append]
        simp only [Instr.fill]
        have hcond : (v.cells.size ≠ size || i * size + v.cells.size > cells.size) = false := by
          simp [hvs]; omega
        rw [if_neg (by rw [hcond]; simp)]
        have hsp : (v.cells.zipIdx.foldl (fun cs (x : Value × Nat) => cs.setIfInBounds (i * size + x.2) x.1) cells).toList = (pre ++ v.cells.toList) ++ rest.drop size := by
          rw [← Array.foldl_toList, Array.toList_zipIdx]
          have := splice_list (i * size) v.cells.toList 0 cells pre rest hc (by simpa using hp) (by rw [hsz]; omega)
          rw [hsz] at this
          exact this
        have := ih (i + 1) l _ (pre ++ v.cells.toList) (rest.drop size) hl' hsp (by rw [List.length_append, hp, hsz, Nat.succ_mul]) (by rw [List.length_drop]; omega)
        rw [List.append_assoc] at this
        exact this
      · cases h
    · cases h
theorem buildW_aw {P : Program} {t : TypeId} {n : Nat} {ps : Array (Nat × Value)} {h : Hp} {K : Value → Hp → Prop}
    (H : match P.underlying t with
    | some (.slice e) => match inRow 0 (sizeB P e) ps.toList with
      | some cs => match hasZero P e && (Nat.beq ps.toList.length n && (Nat.beq cs.length (n * sizeB P e) && Nat.ble (n * sizeB P e) 1000)) with
        | true => nw h (.cells cs.toArray e) fun r h => K (.slice (some ⟨r, 0, none⟩) n n) h
        | false => oAw P (Instr.buildSlice t n ps) h fun v h => shape (zeroOf P t) v fun v => K v h
      | none => oAw P (Instr.buildSlice t n ps) h fun v h => shape (zeroOf P t) v fun v => K v h
    | _ => False) : aw P (Instr.buildSlice t n ps) K h := by
  split at H
  · rename_i e he
    unfold Instr.buildSlice
    split at H
    · rename_i cs hcs
      split at H
      · rename_i hb
        simp only [Bool.and_eq_true] at hb
        obtain ⟨h0, h1, h2, h3⟩ := hb
        have h1' := Nat.eq_of_beq_eq_true h1
        have h2' := Nat.eq_of_beq_eq_true h2
        have h3' := Nat.le_of_ble_eq_true h3
        have hz : ∃ i z, P.info? e = some i ∧ i.zero = some z := by
          unfold hasZero at h0
          cases hi : P.info? e with
          | none => simp [hi] at h0
          | some i =>
            cases hz : i.zero with
            | none => simp [hi, hz] at h0
            | some z => exact ⟨i, z, rfl, hz⟩
        obtain ⟨i, z, hi, hz⟩ := hz
        refine aw_bind' (aw_und he ?_)
        refine aw_bind' (aw_size hi ?_)
        rw [if_neg (by omega)]
        have fin : ∀ zero : Array Value, aw P (do
            let some cells := Instr.fill (fun i => some (i * sizeB P e, sizeB P e)) ((Array.range (n * sizeB P e)).map (zero[· % zero.size]!)) ps.toList
              | stuck "buildSlice: a part of the wrong size"
            pure (.slice (some (← newRow e cells)) n n)) K h := by
          intro zero
          have := fill_row (sizeB P e) ps.toList 0 cs ((Array.range (n * sizeB P e)).map (zero[· % zero.size]!)) [] _ hcs (List.nil_append _).symm (by simp) (by simp [h2'])
          rw [this]
          simp only [List.nil_append]
          exact fun r hr => H r hr
        split
        · refine aw_bind' ?_
          exact fin #[]
        · refine aw_bind' (aw_bind' ?_)
          refine aw_info hi ?_
          simp only [hz]
          exact fin z.cells
      · exact aw_mono (fun v h hv => shape_ok hv) H
    · exact aw_mono (fun v h hv => shape_ok hv) H
  · exact H.elim

theorem efW_sound {P : Program} {o : Oper} {a : Act} {w : World} {K : Value → Hp → Prop} {next : Act → World → Prop} {Q : Exit → Act → World → Prop}
    (h : efW P o a.tmps.toList (hp w) K) (hn : ∀ v w', K v (hp w') → Same w w' → next (a.put o.dst v) w') : o.wp P a w next Q := by
  obtain ⟨dst, op, type, pos, after, guard⟩ := o
  simp only [efW, evalL_act, mapL_eq, argsL_eq, flags_eq] at h
  cases op with
  | alloc e => exact upon_aw (s := vs _) rfl (aw_vs (allocW_aw h)) hn
  | box e x => exact upon_aw (s := vs _) rfl (aw_vs (boxW_aw h)) hn
  | buildSlice t n ps => exact upon_aw (s := vs _) rfl (aw_vs (buildW_aw h)) hn
  | store t b x => exact upon_aw (s := us _) rfl (aw_us (stW_aw h)) hn
  | convert s d x => exact upon_aw (s := vs _) rfl (aw_vs (aw_shape h)) hn
  | makeSlice t b c => exact upon_aw (s := vs _) rfl (aw_vs (aw_shape h)) hn
  | makeMap t r => exact upon_aw (s := vs _) rfl (aw_vs h) hn
  | mapUpdate t m k x => exact upon_aw (s := us _) rfl (aw_us h) hn
  | insert t m k x => exact upon_aw (s := us _) rfl (aw_us h) hn
  | lookup t x i ok => exact upon_aw (s := vs _) rfl (aw_vs (aw_shape h)) hn
  | range t x => exact upon_aw (s := vs _) rfl (aw_vs h) hn
  | next it s => exact upon_aw (s := vs _) rfl (aw_vs (aw_shape h)) hn
  | call c =>
    obtain ⟨callee, args, argTypes⟩ := c
    cases callee with
    | builtin b => exact upon_aw rfl h fun v w' hv hS => hn v w' (shape_ok hv) hS
    | value f =>
      cases f with
      | func f =>
        refine upon_spec (f := f) (args := args.map a.eval) ?_ h fun v w' hv hS => hn v w' (shape_ok hv) hS
        simp [execOp, resolve, Deferred.ofValue, Act.eval, invoke, Bind.bind, Sem.bind, Pure.pure]
      | _ =>
        dsimp only at h
        unfold oVal at h
        split at h
        · rename_i g first captured hg
          refine upon_spec (f := g) (args := first ++ args.map a.eval ++ captured) ?_ h fun v w' hv hS => hn v w' (shape_ok hv) hS
          simp only [execOp, resolve, hg]
          simp [Deferred.ofValue, invoke, Bind.bind, Sem.bind, Pure.pure]
        · exact h.elim
    | invoke r m =>
      refine upon_aw (s := callMethod (a.eval r) m (args.map a.eval)) ?_ h fun v w' hv hS => hn v w' (shape_ok hv) hS
      simp only [execOp, resolve, invoke, Bind.bind, Sem.bind, Pure.pure]
      have e0 : (#[a.eval r] ++ args.map a.eval)[0]? = some (a.eval r) := by
        rw [Array.getElem?_append_left (by simp)]; rfl
      have e1 : (#[a.eval r] ++ args.map a.eval).extract 1 (#[a.eval r] ++ args.map a.eval).size = args.map a.eval := by
        apply Array.ext'; simp [List.take_of_length_le]
      rw [e0, e1]
  | _ => exact h.elim

theorem wp_of_run {P : Program} {o : Oper} {a : Act} {w : World} {v : Value} {next : Act → World → Prop} {Q : Exit → Act → World → Prop}
    (hr : (execOp a.eval o).run P w = .ok (.value v) w) (hn : next (a.put o.dst v) w) : o.wp P a w next Q := by
  unfold Oper.wp; rw [hr]; exact hn

theorem opW_sound {P : Program} {o : Oper} {a : Act} {w : World} {K : Value → Hp → Prop} {next : Act → World → Prop} {Q : Exit → Act → World → Prop}
    (h : opW P o a.tmps.toList (hp w) K) (hn : ∀ v w', K v (hp w') → Same w w' → next (a.put o.dst v) w') : o.wp P a w next Q := by
  unfold opW at h
  split at h
  · rename_i v hc
    refine wp_of_run (v := v) ?_ (hn _ _ h (.refl w))
    rw [← evalL_act, exec_mv hc]; rfl
  · rename_i s hc
    obtain ⟨v, hv, hk⟩ := roW_sound hc h
    refine wp_of_run (v := v) ?_ (hn _ _ hk (.refl w))
    rw [← evalL_act]
    exact rd_sound P _ w _ (exec_cls hc _ _ hv)
  · exact efW_sound h hn
end Go.H
