import Derived.OrdersHeld
import Derived.KernelRfl
import Derived.Laws.Sem
import Derived.Laws.Strings
namespace Go.H

/-! The heap alone: what stands in each block. -/
abbrev Hp := Nat → Option Obj
def hp (w : World) : Hp := fun b => w.heap[b]?
def Hp.set (h : Hp) (b : Nat) (o : Obj) : Hp := fun x => if x = b then some o else h x
def cell (h : Hp) (a : Addr) : Option Value :=
  match h a.block with
  | some (.cells c _ _) => if a.spot.isSome then none else c[a.off]?
  | _ => none
def shapeH (h : Hp) (r : Nat) : Option (TypeId × Nat) :=
  match h r with
  | some (.cells c elem _) => some (elem, c.size)
  | _ => none
def frozenH (h : Hp) (a : Addr) : Bool :=
  match h a.block with
  | some (.cells _ _ (lo, hi)) => lo ≤ a.off && a.off < hi
  | _ => false
def flatV : Value → Bool
  | .agg _ | .tuple _ => false
  | _ => true

structure Same (w w' : World) : Prop where
  os : w'.os = w.os
  output : w'.output = w.output
theorem Same.refl (w : World) : Same w w := ⟨rfl, rfl⟩
theorem Same.trans {a b c : World} (h : Same a b) (h' : Same b c) : Same a c := ⟨h'.os.trans h.os, h'.output.trans h.output⟩

theorem cell_hp (w : World) (a : Addr) : cell (hp w) a = w.cell? a := rfl
theorem shapeH_hp (w : World) (r : Nat) : shapeH (hp w) r = w.shape? r := rfl
theorem frozenH_hp (w : World) (a : Addr) : frozenH (hp w) a = w.frozen? a := rfl

/-- What a computation reads, if it only reads. -/
def rd {α : Type} (P : Program) : Sem α → Hp → Option α
  | .pure a, _ => some a
  | .load _ a k, h => match cell h a with
    | some v => rd P (k v) h
    | none => none
  | .shape r k, h => rd P (k (shapeH h r)) h
  | .frozen a k, h => rd P (k (frozenH h a)) h
  | .getObj r k, h => match h r with
    | some (.cells ..) => none
    | some o => rd P (k o) h
    | none => none
  | .program k, h => rd P (k P) h
  | .mark _ k, h => rd P k h
  | _, _ => none

/-- The weakest precondition of a computation over heaps: whatever is drawn, whichever block is new. -/
def aw {α : Type} (P : Program) : Sem α → (α → Hp → Prop) → Hp → Prop
  | .pure a, K, h => K a h
  | .load _ a k, K, h => match cell h a with
    | some v => aw P (k v) K h
    | none => False
  | .store _ a v k, K, h => match h a.block with
    | some (.cells c e fr) => flatV v = true ∧ a.spot = none ∧ a.off < c.size ∧ frozenH h a = false ∧ aw P k K (h.set a.block (.cells (c.setIfInBounds a.off v) e fr))
    | _ => False
  | .new o k, K, h => ∀ r, h r = none → aw P (k r) K (h.set r o)
  | .shape r k, K, h => aw P (k (shapeH h r)) K h
  | .freeze a n k, K, h => match h a.block with
    | some (.cells c e fr) => aw P k K (if n = 0 then h else h.set a.block (.cells c e (if fr.1 == fr.2 then (a.off, a.off + n) else (min fr.1 a.off, max fr.2 (a.off + n)))))
    | _ => False
  | .frozen a k, K, h => aw P (k (frozenH h a)) K h
  | .getObj r k, K, h => match h r with
    | some (.cells ..) => False
    | some o => aw P (k o) K h
    | none => False
  | .setObj r o k, K, h => match h r with
    | some (.cells ..) => False
    | some _ => aw P k K (h.set r o)
    | none => False
  | .choose q k, K, h => match q.forced with
    | true => aw P (k 0) K h
    | false => ∀ t, aw P (k (q.cut t)) K h
  | .sys .., _, _ => False
  | .program k, K, h => aw P (k P) K h
  | .mark _ k, K, h => aw P k K h
  | .halt _, _, _ => False

theorem rd_sound {α : Type} (P : Program) (s : Sem α) : ∀ (w : World) (a : α), rd P s (hp w) = some a → s.run P w = .ok a w := by
  induction s with
  | pure b => intro w a h; simp only [rd, Option.some.injEq] at h; subst h; rfl
  | load m ad k ih =>
    intro w a h
    simp only [rd] at h
    simp only [Sem.run, ← cell_hp]
    cases hc : cell (hp w) ad with
    | none => simp [hc] at h
    | some v => simp only [hc] at h ⊢; exact ih v w a h
  | shape r k ih => intro w a h; exact ih _ w a h
  | frozen r k ih => intro w a h; exact ih _ w a h
  | getObj r k ih =>
    intro w a h
    simp only [rd, hp] at h
    simp only [Sem.run]
    split at h
    · cases h
    · rename_i o hno hr
      rw [hr]
      split
      · rename_i c e f heq; cases heq; exact absurd rfl (hno _ _ _)
      · rename_i o' _ heq; cases heq; exact ih o w a h
      · rename_i heq; cases heq
    · cases h
  | program k ih => intro w a h; exact ih P w a h
  | mark m k ih => intro w a h; exact ih w a h
  | store => intro w a h; simp [rd] at h
  | new => intro w a h; simp [rd] at h
  | freeze => intro w a h; simp [rd] at h
  | setObj => intro w a h; simp [rd] at h
  | choose => intro w a h; simp [rd] at h
  | sys => intro w a h; simp [rd] at h
  | halt => intro w a h; simp [rd] at h

theorem hp_push (w : World) (o : Obj) : hp { w with heap := w.heap.push o } = (hp w).set w.heap.size o := by
  funext b
  simp only [hp, Hp.set, Array.getElem?_push]

theorem hp_setCell (w : World) (a : Addr) (v : Value) (c : Array Value) (e : TypeId) (fr : Nat × Nat) (hs : a.spot = none)
    (hb : hp w a.block = some (.cells c e fr)) : hp (w.setCell a v) = (hp w).set a.block (.cells (c.setIfInBounds a.off v) e fr) := by
  funext b
  simp only [hp, World.setCell, Hp.set, Array.getElem?_modify]
  simp only [hp] at hb
  by_cases hab : b = a.block
  · subst hab; simp [hb, hs]
  · have hab' : ¬ a.block = b := fun h => hab h.symm
    simp [hab, hab']

theorem hp_setObj (w : World) (r : Nat) (o x : Obj) (hb : hp w r = some x) : hp { w with heap := w.heap.setIfInBounds r o } = (hp w).set r o := by
  funext b
  simp only [hp, Hp.set, Array.getElem?_setIfInBounds]
  simp only [hp] at hb
  have hlt : r < w.heap.size := (Array.getElem?_eq_some_iff.1 hb).1
  by_cases hab : b = r
  · subst hab; simp [hlt]
  · have hab' : ¬ r = b := fun h => hab h.symm
    simp [hab, hab']

theorem hp_freeze (w : World) (a : Addr) (n : Nat) (c : Array Value) (e : TypeId) (fr : Nat × Nat) (hb : hp w a.block = some (.cells c e fr)) :
    hp (w.freeze a n) = if n = 0 then hp w else (hp w).set a.block (.cells c e (if fr.1 == fr.2 then (a.off, a.off + n) else (min fr.1 a.off, max fr.2 (a.off + n)))) := by
  by_cases hn : n = 0
  · simp [World.freeze, hn]
  · funext b
    simp only [World.freeze, hn, if_false, hp, Hp.set, Array.getElem?_modify]
    simp only [hp] at hb
    by_cases hab : b = a.block
    · subst hab; simp [hb]
    · have hab' : ¬ a.block = b := fun h => hab h.symm
      simp [hab, hab']

theorem aw_sound {α : Type} (P : Program) (s : Sem α) : ∀ (K : α → Hp → Prop) (w : World), aw P s K (hp w) →
    ∃ a w', s.run P w = .ok a w' ∧ K a (hp w') ∧ Same w w' := by
  induction s with
  | pure b => intro K w h; exact ⟨b, w, rfl, h, .refl w⟩
  | load m ad k ih =>
    intro K w h
    simp only [aw] at h
    simp only [Sem.run, ← cell_hp]
    cases hc : cell (hp w) ad with
    | none => simp [hc] at h
    | some v => simp only [hc] at h ⊢; exact ih v K w h
  | store m ad v k ih =>
    intro K w h
    simp only [aw] at h
    split at h
    · rename_i c e fr hb
      obtain ⟨hv, hs, hlt, hf, h⟩ := h
      rw [← hp_setCell w ad v c e fr hs hb] at h
      obtain ⟨a, w', hr, hK, hS⟩ := ih K _ h
      refine ⟨a, w', ?_, hK, ⟨hS.os, hS.output⟩⟩
      have hcell : w.cell? ad = some c[ad.off] := by
        simp only [hp] at hb
        simp [World.cell?, hb, hs, hlt]
      rw [frozenH_hp] at hf
      cases v <;> first
        | (simp only [Sem.run, hcell, hf]; exact hr)
        | (simp [flatV] at hv)
    · exact h.elim
  | new o k ih =>
    intro K w h
    have h1 := h w.heap.size (by simp [hp])
    rw [← hp_push] at h1
    obtain ⟨a, w', hr, hK, hS⟩ := ih w.heap.size K _ h1
    exact ⟨a, w', hr, hK, ⟨hS.os, hS.output⟩⟩
  | shape r k ih => intro K w h; exact ih _ K w h
  | freeze ad n k ih =>
    intro K w h
    simp only [aw] at h
    split at h
    · rename_i c e fr hb
      rw [← hp_freeze w ad n c e fr hb] at h
      obtain ⟨a, w', hr, hK, hS⟩ := ih K _ h
      refine ⟨a, w', hr, hK, ?_⟩
      by_cases hn : n = 0
      · simp only [World.freeze, hn, if_true] at hS; exact hS
      · simp only [World.freeze, hn, if_false] at hS; exact ⟨hS.os, hS.output⟩
    · exact h.elim
  | frozen r k ih => intro K w h; exact ih _ K w h
  | getObj r k ih =>
    intro K w h
    simp only [aw, hp] at h
    simp only [Sem.run]
    split at h
    · cases h
    · rename_i o hno hr
      rw [hr]
      split
      · rename_i c e f heq; cases heq; exact absurd rfl (hno _ _ _)
      · rename_i o' _ heq; cases heq; exact ih o K w h
      · rename_i heq; cases heq
    · cases h
  | setObj r o k ih =>
    intro K w h
    simp only [aw] at h
    split at h
    · cases h
    · rename_i x hno hr
      rw [← hp_setObj w r o x hr] at h
      obtain ⟨a, w', hr', hK, hS⟩ := ih K _ h
      refine ⟨a, w', ?_, hK, ⟨hS.os, hS.output⟩⟩
      simp only [hp] at hr
      simp only [Sem.run, hr]
      exact hr'
    · cases h
  | choose q k ih =>
    intro K w h
    simp only [aw] at h
    simp only [Sem.run]
    split at h
    · rename_i hq; simp only [hq, if_true]; exact ih 0 K w h
    · rename_i hq
      simp only [hq, Bool.false_eq_true, if_false]
      obtain ⟨a, w', hr, hK, hS⟩ := ih _ K { w with drawn := w.drawn + 1 } (h (w.tape w.drawn q))
      exact ⟨a, w', hr, hK, ⟨hS.os, hS.output⟩⟩
  | sys => intro K w h; exact h.elim
  | program k ih => intro K w h; exact ih P K w h
  | mark m k ih => intro K w h; exact ih K w h
  | halt => intro K w h; exact h.elim

theorem aw_mono {α : Type} {P : Program} {s : Sem α} : ∀ {K K' : α → Hp → Prop} {h : Hp}, (∀ a h', K a h' → K' a h') → aw P s K h → aw P s K' h := by
  induction s with
  | pure b => intro K K' h hk; exact hk _ _
  | load m ad k ih =>
    intro K K' h hk
    simp only [aw]
    split
    · exact ih _ hk
    · exact id
  | store m ad v k ih =>
    intro K K' h hk
    simp only [aw]
    split
    · exact fun ⟨a, b, c, d, e⟩ => ⟨a, b, c, d, ih hk e⟩
    · exact id
  | new o k ih => intro K K' h hk H r hr; exact ih _ hk (H r hr)
  | shape r k ih => intro K K' h hk; exact ih _ hk
  | freeze ad n k ih =>
    intro K K' h hk
    simp only [aw]
    split
    · exact ih hk
    · exact id
  | frozen r k ih => intro K K' h hk; exact ih _ hk
  | getObj r k ih =>
    intro K K' h hk
    simp only [aw]
    split <;> first | exact id | exact ih _ hk
  | setObj r o k ih =>
    intro K K' h hk
    simp only [aw]
    split <;> first | exact id | exact ih hk
  | choose q k ih =>
    intro K K' h hk
    simp only [aw]
    split
    · exact ih _ hk
    · exact fun H t => ih _ hk (H t)
  | sys => intro K K' h hk H; exact H
  | program k ih => intro K K' h hk; exact ih P hk
  | mark m k ih => intro K K' h hk; exact ih hk
  | halt => intro K K' h hk H; exact H

theorem rd_bind {α β : Type} (P : Program) (s : Sem α) (f : α → Sem β) : ∀ h, rd P (s.bind f) h = (rd P s h).bind fun a => rd P (f a) h := by
  induction s with
  | pure b => intro h; rfl
  | load m ad k ih =>
    intro h
    simp only [Sem.bind, rd]
    split
    · exact ih _ h
    · rfl
  | shape r k ih => intro h; exact ih _ h
  | frozen r k ih => intro h; exact ih _ h
  | getObj r k ih =>
    intro h
    simp only [Sem.bind, rd]
    split <;> first | rfl | exact ih _ h
  | program k ih => intro h; exact ih P h
  | mark m k ih => intro h; exact ih h
  | store => intro h; rfl
  | new => intro h; rfl
  | freeze => intro h; rfl
  | setObj => intro h; rfl
  | choose => intro h; rfl
  | sys => intro h; rfl
  | halt => intro h; rfl

theorem aw_bind {α β : Type} (P : Program) (s : Sem α) (f : α → Sem β) (K : β → Hp → Prop) : ∀ h, aw P (s.bind f) K h ↔ aw P s (fun a h => aw P (f a) K h) h := by
  induction s with
  | pure b => intro h; exact Iff.rfl
  | load m ad k ih =>
    intro h
    simp only [Sem.bind, aw]
    split
    · exact ih _ h
    · exact Iff.rfl
  | store m ad v k ih =>
    intro h
    simp only [Sem.bind, aw]
    split
    · rw [ih]
    · exact Iff.rfl
  | new o k ih => intro h; simp only [Sem.bind, aw]; exact forall_congr' fun r => forall_congr' fun _ => ih r _
  | shape r k ih => intro h; exact ih _ h
  | freeze ad n k ih =>
    intro h
    simp only [Sem.bind, aw]
    split
    · exact ih _
    · exact Iff.rfl
  | frozen r k ih => intro h; exact ih _ h
  | getObj r k ih =>
    intro h
    simp only [Sem.bind, aw]
    split <;> first | exact Iff.rfl | exact ih _ h
  | setObj r o k ih =>
    intro h
    simp only [Sem.bind, aw]
    split <;> first | exact Iff.rfl | exact ih _
  | choose q k ih =>
    intro h
    simp only [Sem.bind, aw]
    split
    · exact ih _ h
    · exact forall_congr' fun t => ih _ h
  | sys => intro h; exact Iff.rfl
  | program k ih => intro h; exact ih P h
  | mark m k ih => intro h; exact ih h
  | halt => intro h; exact Iff.rfl

/-- What only reads, reads the same wherever it is read. -/
theorem aw_of_rd {α : Type} (P : Program) (s : Sem α) (K : α → Hp → Prop) : ∀ (h : Hp) (a : α), rd P s h = some a → K a h → aw P s K h := by
  induction s with
  | pure b => intro h a e hk; simp only [rd, Option.some.injEq] at e; subst e; exact hk
  | load m ad k ih =>
    intro h a e hk
    simp only [rd] at e
    simp only [aw]
    cases hc : cell h ad with
    | none => simp [hc] at e
    | some v => simp only [hc] at e ⊢; exact ih v h a e hk
  | shape r k ih => intro h a e hk; exact ih _ h a e hk
  | frozen r k ih => intro h a e hk; exact ih _ h a e hk
  | getObj r k ih =>
    intro h a e hk
    simp only [rd] at e
    simp only [aw]
    split at e
    · cases e
    · rename_i o hno hr
      exact ih o h a e hk
    · cases e
  | program k ih => intro h a e hk; exact ih P h a e hk
  | mark m k ih => intro h a e hk; exact ih h a e hk
  | store => intro h a e; simp [rd] at e
  | new => intro h a e; simp [rd] at e
  | freeze => intro h a e; simp [rd] at e
  | setObj => intro h a e; simp [rd] at e
  | choose => intro h a e; simp [rd] at e
  | sys => intro h a e; simp [rd] at e
  | halt => intro h a e; simp [rd] at e

end Go.H
namespace Go.H

/-- A call of a function of the program: from heap h it returns, and K holds of what it returns and of the heap then. -/
def Runs (P : Program) (f : FuncId) (args : Array Value) (h : Hp) (K : Value → Hp → Prop) : Prop :=
  ∀ w, hp w = h → Calls P f args w (fun e w' => ∃ v, e = .returned v ∧ K v (hp w') ∧ Same w w')
def Spec (P : Program) (f : FuncId) (args : Array Value) (h : Hp) (K : Value → Hp → Prop) : Prop :=
  (∀ w, (callFunc f args).run P w = .ok (.enter f args) w) ∧ Runs P f args h K

theorem Runs.mono {P : Program} {f : FuncId} {args : Array Value} {h : Hp} {K K' : Value → Hp → Prop} (s : Runs P f args h K)
    (hk : ∀ v h', K v h' → K' v h') : Runs P f args h K' :=
  fun w hw => (s w hw).mono fun _ _ ⟨v, he, hv, hS⟩ => ⟨v, he, hk _ _ hv, hS⟩
theorem Spec.mono {P : Program} {f : FuncId} {args : Array Value} {h : Hp} {K K' : Value → Hp → Prop} (s : Spec P f args h K)
    (hk : ∀ v h', K v h' → K' v h') : Spec P f args h K' := ⟨s.1, s.2.mono hk⟩

def evalL (l : List Value) : Operand → Value
  | .tmp t => l.getD t undef
  | .const v => v
  | .global g => .pointer (some ⟨g, 0, none⟩)
  | .func f => .func (.func f) #[] #[]
def mapL (l : List Value) (ps : Array (Nat × Operand)) : Array (Nat × Value) := (ps.toList.map fun p => (p.1, evalL l p.2)).toArray
def argsL (l : List Value) (xs : Array Operand) : Array Value := (xs.toList.map (evalL l)).toArray
def putL (l : List Value) (dst : Option Tmp) (v : Value) : List Value :=
  match dst with
  | some d => l.set d v
  | none => l
def isC : Operand → Bool
  | .const _ => true
  | _ => false
def flags (xs : Array Operand) : Array Bool := (xs.toList.map isC).toArray

/-! ### The operations over values -/
def oRd (P : Program) (s : Sem Value) (h : Hp) (K : Value → Prop) : Prop :=
  match rd P s h with
  | some v => K v
  | none => False
def oAw (P : Program) (s : Sem Value) (h : Hp) (K : Value → Hp → Prop) : Prop := aw P s K h
def oSt (P : Program) (s : Sem Unit) (h : Hp) (K : Hp → Prop) : Prop := aw P s (fun _ h => K h) h
def sPick (c a b : Value) : Sem Value := do pure (if ← asBool c then a else b)
def sNil (x : Value) : Sem Value :=
  match x with
  | .pointer none | .nilIface | .nilFunc => runtimePanic .nilDeref
  | .func (.method _) _ _ => stuck "a method value"
  | x => pure x
def sBin (op : BinOp) (t : TypeId) (c : Bool) (a b : Value) : Sem Value := do
  eqGuard op t (match c with | true => .const undef | false => .tmp 0) (.tmp 0) a b; binOp op t a b
/-- What an operation that enters, or steps, comes to. -/
def Nx (P : Program) (K : Value → Hp → Prop) : Next → Hp → Prop
  | .value v, h => K v h
  | .skip, h => K undef h
  | .enter f args, h => Runs P f args h K
  | _, _ => False
def oNx (P : Program) (s : Sem Next) (h : Hp) (K : Value → Hp → Prop) : Prop := aw P s (Nx P K) h
/-- A call through a value. -/
def oVal (P : Program) (f : Value) (args : Array Value) (h : Hp) (K : Value → Hp → Prop) : Prop :=
  match f with
  | .func (.func g) first captured => Spec P g (first ++ args ++ captured) h K
  | _ => False


/-! ### Values by their types -/
def kEq (a b : IntKind) : Bool :=
  match a, b with
  | .i8, .i8 | .i16, .i16 | .i32, .i32 | .i64, .i64 | .u8, .u8 | .u16, .u16 | .u32, .u32 | .u64, .u64 => true
  | _, _ => false
theorem kEq_eq {a b : IntKind} (h : kEq a b = true) : a = b := by cases a <;> cases b <;> first | rfl | cases h
def asIn (k : IntKind) (v : Value) (K : Int → Prop) : Prop :=
  match v with
  | .int k' n => match kEq k' k with
    | true => K n
    | false => False
  | _ => False
def asBo (v : Value) (K : Bool → Prop) : Prop :=
  match v with
  | .bool b => K b
  | _ => False
def asStr (v : Value) (K : ByteArray → Prop) : Prop :=
  match v with
  | .string b => K b
  | _ => False
def asSl (v : Value) (K : Option Addr → Nat → Nat → Prop) : Prop :=
  match v with
  | .slice a n c => K a n c
  | _ => False
def asPt (v : Value) (K : Option Addr → Prop) : Prop :=
  match v with
  | .pointer a => K a
  | _ => False
def nz (a : Option Addr) (K : Addr → Prop) : Prop :=
  match a with
  | some ad => K ad
  | none => False
def unc (l : List Value) (K : Value → List Value → Prop) : Prop :=
  match l with
  | v :: r => K v r
  | [] => False
def nilL (l : List Value) (A : Prop) : Prop :=
  match l with
  | [] => A
  | _ => False
/-- One cell, by a value of its type. -/
def shp (z v : Value) (K : Value → Prop) : Prop :=
  match z with
  | .int k _ => asIn k v fun n => K (.int k n)
  | .bool _ => asBo v fun b => K (.bool b)
  | .string _ => asStr v fun b => K (.string b)
  | .slice .. => asSl v fun a n c => K (.slice a n c)
  | .pointer _ => asPt v fun a => K (.pointer a)
  | _ => K v
def shpL : List Value → List Value → List Value → (List Value → Prop) → Prop
  | [], l, acc, K => nilL l (K acc)
  | z :: zs, l, acc, K => unc l fun v r => shp z v fun v => shpL zs r (acc ++ [v]) K
def asAg (v : Value) (K : List Value → Prop) : Prop :=
  match v with
  | .agg vs => K vs.toList
  | _ => False
def asTu (v : Value) (K : List Value → Prop) : Prop :=
  match v with
  | .tuple vs => K vs.toList
  | _ => False
def big (n : Nat) : Bool := Nat.ble 41 n
/-- A value, by a value of its type: structs cell by cell. -/
def shA (z v : Value) (K : Value → Prop) : Prop :=
  match z with
  | .agg zs => match big zs.toList.length with
    | true => K v
    | false => asAg v fun l => shpL zs.toList l [] fun l => K (.agg l.toArray)
  | z => shp z v K
def shT : List Value → List Value → List Value → (List Value → Prop) → Prop
  | [], l, acc, K => nilL l (K acc)
  | z :: zs, l, acc, K => unc l fun v r => shA z v fun v => shT zs r (acc ++ [v]) K
def shape (z v : Value) (K : Value → Prop) : Prop :=
  match z with
  | .tuple zs => match zs.toList with
    | [] => K v
    | zs => asTu v fun l => shT zs l [] fun l => K (.tuple l.toArray)
  | z => shA z v K
def zeroOf (P : Program) (t : TypeId) : Value :=
  match P.info? t with
  | some i => match i.zero with
    | some z => z
    | none => .nilIface
  | none => .nilIface
def sizeB (P : Program) (t : TypeId) : Nat :=
  match P.info? t with
  | some i => i.size
  | none => 0
def aggB (P : Program) (t : TypeId) : Bool :=
  match P.underlying t with
  | some (.struct _) | some (.array _ _) => true
  | _ => false

theorem shp_ok {z v : Value} {K : Value → Prop} (h : shp z v K) : K v := by
  unfold shp at h
  split at h
  · unfold asIn at h
    split at h
    · split at h
      · rename_i hk; rw [← kEq_eq hk] at h; exact h
      · exact h.elim
    · exact h.elim
  · unfold asBo at h; split at h <;> first | exact h | exact h.elim
  · unfold asStr at h; split at h <;> first | exact h | exact h.elim
  · unfold asSl at h; split at h <;> first | exact h | exact h.elim
  · unfold asPt at h; split at h <;> first | exact h | exact h.elim
  · exact h
theorem shpL_ok : ∀ {zs l acc : List Value} {K : List Value → Prop}, shpL zs l acc K → K (acc ++ l) ∧ l.length = zs.length
  | [], l, acc, K, h => by
    cases l with
    | nil => exact ⟨by rw [List.append_nil]; exact h, rfl⟩
    | cons v r => exact h.elim
  | z :: zs, l, acc, K, h => by
    cases l with
    | nil => exact h.elim
    | cons v r =>
      have h' := shp_ok (K := fun v => shpL zs r (acc ++ [v]) K) h
      obtain ⟨a, b⟩ := shpL_ok h'
      exact ⟨by simpa using a, by simp [b]⟩
theorem shA_ok {z v : Value} {K : Value → Prop} (h : shA z v K) : K v := by
  unfold shA at h
  split at h
  · split at h
    · exact h
    · unfold asAg at h
      split at h
      · have := (shpL_ok h).1; simpa using this
      · exact h.elim
  · exact shp_ok h
theorem shT_ok : ∀ {zs l acc : List Value} {K : List Value → Prop}, shT zs l acc K → K (acc ++ l)
  | [], l, acc, K, h => by
    cases l with
    | nil => rw [List.append_nil]; exact h
    | cons v r => exact h.elim
  | z :: zs, l, acc, K, h => by
    cases l with
    | nil => exact h.elim
    | cons v r =>
      have h' := shA_ok (K := fun v => shT zs r (acc ++ [v]) K) h
      have := shT_ok h'
      simpa using this
theorem shape_ok {z v : Value} {K : Value → Prop} (h : shape z v K) : K v := by
  unfold shape at h
  split at h
  · split at h
    · exact h
    · unfold asTu at h
      split at h
      · have := shT_ok h; simpa using this
      · exact h.elim
  · exact shA_ok h

/-! ### Typed reads and writes -/
def ld (h : Hp) (ad : Addr) (K : Value → Prop) : Prop :=
  match cell h ad with
  | some v => K v
  | none => False
def ldL : List Value → Hp → Addr → Nat → List Value → (List Value → Prop) → Prop
  | [], _, _, _, acc, K => K acc
  | z :: zs, h, ad, i, acc, K => ld h (ad.add i) fun v => shp z v fun v => ldL zs h ad (i + 1) (acc ++ [v]) K
def aggCells : Value → List Value
  | .agg zs => zs.toList
  | _ => []
def ldW (P : Program) (t : TypeId) (x : Value) (h : Hp) (K : Value → Prop) : Prop :=
  match x with
  | .pointer (some ad) => match aggB P t with
    | false => match P.underlying t with
      | some _ => ld h ad fun v => shp (zeroOf P t) v K
      | none => False
    | true => match Nat.beq (aggCells (zeroOf P t)).length (sizeB P t) && !big (sizeB P t) with
      | true => ldL (aggCells (zeroOf P t)) h ad 0 [] fun l => K (.agg l.toArray)
      | false => oRd P (Instr.loadAt t (.pointer (some ad))) h K
  | _ => False
def pl (v : Value) (A : Prop) : Prop :=
  match flatV v with
  | true => A
  | false => False
def st (h : Hp) (ad : Addr) (v : Value) (K : Hp → Prop) : Prop :=
  pl v (match h ad.block with
  | some (.cells c e fr) => (ad.spot = none ∧ ad.off < c.size ∧ frozenH h ad = false) ∧ K (h.set ad.block (.cells (c.setIfInBounds ad.off v) e fr))
  | _ => False)
def stL : List Value → Hp → Addr → Nat → (Hp → Prop) → Prop
  | [], h, _, _, K => K h
  | c :: r, h, ad, i, K => st h (ad.add i) c fun h' => stL r h' ad (i + 1) K
def stW (P : Program) (t : TypeId) (x v : Value) (h : Hp) (K : Hp → Prop) : Prop :=
  match x with
  | .pointer (some ad) => match aggB P t with
    | false => match Nat.beq (sizeB P t) 1 with
      | true => st h ad v K
      | false => oSt P (Instr.storeAt t (.pointer (some ad)) v) h K
    | true => match big (sizeB P t) with
      | false => (match v with
        | .agg cs => (match Nat.beq cs.toList.length (sizeB P t) with
          | true => stL cs.toList h ad 0 K
          | false => False)
        | _ => False)
      | true => oSt P (Instr.storeAt t (.pointer (some ad)) v) h K
  | _ => False
def nw (h : Hp) (o : Obj) (K : Nat → Hp → Prop) : Prop := ∀ r, h r = none → K r (h.set r o)
def boxW (P : Program) (t : TypeId) (v : Value) (h : Hp) (K : Value → Hp → Prop) : Prop :=
  match aggB P t with
  | true => nw h (.cells v.cells t) fun r h => K (.pointer (some ⟨r, 0, none⟩)) h
  | false => pl v (nw h (.cells #[v] t) fun r h => K (.pointer (some ⟨r, 0, none⟩)) h)
def allocW (P : Program) (t : TypeId) (h : Hp) (K : Value → Hp → Prop) : Prop :=
  match (P.info? t).bind (·.zero) with
  | some z => nw h (.cells z.cells t) fun r h => K (.pointer (some ⟨r, 0, none⟩)) h
  | none => False
def hasZero (P : Program) (t : TypeId) : Bool :=
  match (P.info? t).bind (·.zero) with
  | some _ => true
  | none => false
/-- Values that are one cell each. -/
def plL : List (Nat × Value) → Prop → Prop
  | [], A => A
  | (_, v) :: r, A => pl v (plL r A)
/-- The parts of a slice that is written out stand in order. -/
def inOrd : Nat → List (Nat × Value) → Bool
  | _, [] => true
  | i, (j, _) :: r => Nat.beq i j && inOrd (i + 1) r
/-- The parts of a slice that is written out: each there, in order, each of the size. -/
def inRow : Nat → Nat → List (Nat × Value) → Option (List Value)
  | _, _, [] => some []
  | i, size, (j, v) :: r => match Nat.beq i j && Nat.beq v.cells.toList.length size with
    | true => match inRow (i + 1) size r with
      | some l => some (v.cells.toList ++ l)
      | none => none
    | false => none

/-! ### Reads, by what reads -/
def nb (neg b : Bool) : Bool :=
  match neg with
  | true => !b
  | false => b
def isNilIface : Value → Bool
  | .nilIface => true
  | _ => false
def isNilPt : Value → Bool
  | .pointer none => true
  | _ => false
def isNilSl : Value → Bool
  | .slice none _ _ => true
  | _ => false
/-- A comparison with nil: some neg. -/
def nilForm (P : Program) (op : BinOp) (t : TypeId) (c : Value) : Option Bool :=
  match op with
  | .eql => match P.underlying t with
    | some (.interface _) => match isNilIface c with | true => some false | false => none
    | some (.pointer _) => match isNilPt c with | true => some false | false => none
    | some (.slice _) => match isNilSl c with | true => some false | false => none
    | _ => none
  | .neq => match P.underlying t with
    | some (.interface _) => match isNilIface c with | true => some true | false => none
    | some (.pointer _) => match isNilPt c with | true => some true | false => none
    | some (.slice _) => match isNilSl c with | true => some true | false => none
    | _ => none
  | _ => none
def nlW (P : Program) (t : TypeId) (neg : Bool) (x : Value) (K : Value → Prop) : Prop :=
  match P.underlying t with
  | some (.interface _) => (match x with
    | .nilIface => K (.bool (nb neg true))
    | .iface _ _ => K (.bool (nb neg false))
    | _ => False)
  | some (.pointer _) => asPt x fun a => K (.bool (nb neg a.isNone))
  | some (.slice _) => asSl x fun a _ _ => K (.bool (nb neg a.isNone))
  | _ => False
def bsel (c x y : Bool) : Bool :=
  match c with
  | true => x
  | false => y
def pickV (c : Bool) (a b : Value) : Value :=
  match a, b with
  | .bool x, .bool y => .bool (bsel c x y)
  | a, b => match c with
    | true => a
    | false => b
def oNil (P : Program) (x : Value) (h : Hp) (K : Value → Prop) : Prop :=
  match x with
  | .pointer a => nz a fun ad => K (.pointer (some ad))
  | x => oRd P (sNil x) h K
def asAd (v : Value) (K : Addr → Prop) : Prop :=
  match v with
  | .pointer (some ad) => K ad
  | _ => False
def ixA (P : Program) (t : TypeId) (x i : Value) (h : Hp) (K : Addr → Prop) : Prop := oRd P (Instr.indexAt t x i) h fun v => asAd v K
/-! A struct or an array, built of parts. -/
def fieldsAt (P : Program) (t : TypeId) : Option (List (Nat × Nat)) :=
  match P.underlying t with
  | some (.struct fields) => some (fields.toList.map fun f => (f.offset, sizeB P f.type))
  | _ => none
def fillL (pls : List (Nat × Nat)) : List Value → List (Nat × Value) → Option (List Value)
  | cells, [] => some cells
  | cells, (i, v) :: rest => match pls[i]? with
    | none => none
    | some (off, size) => match Nat.beq v.cells.toList.length size && Nat.ble (off + size) cells.length with
      | true => fillL pls (cells.take off ++ (v.cells.toList ++ cells.drop (off + size))) rest
      | false => none
def infoAll (P : Program) (t : TypeId) : Bool :=
  match P.underlying t with
  | some (.struct fields) => fields.toList.all fun f => (P.info? f.type).isSome
  | _ => false
def buildV (P : Program) (t : TypeId) (ps : Array (Nat × Value)) : Option (List Value) :=
  match infoAll P t && hasZero P t with
  | true => match fieldsAt P t with
    | some pls => match zeroOf P t with
      | .agg zs => match big zs.toList.length with
        | false => fillL pls zs.toList ps.toList
        | true => none
      | _ => none
    | none => none
  | false => none

/-- Is a conversion one that makes memory? -/
def makes (P : Program) (d : TypeId) : Bool :=
  match P.underlying d with
  | some (.slice _) => true
  | _ => false

/-- What an operation does, by its kind: it hands a value on; it reads; or else. -/
inductive Cls where
  | mv (v : Value)
  | ro (s : Sem Value)
  | ef
def cls (P : Program) (l : List Value) (o : Oper) : Cls :=
  match o.op with
  | .move x | .assign x => .mv (evalL l x)
  | .pick c a b => .ro (sPick (evalL l c) (evalL l a) (evalL l b))
  | .build t ps => .ro (Instr.build t (mapL l ps))
  | .load t a => .ro (Instr.loadAt t (evalL l a))
  | .nilCheck x => .ro (sNil (evalL l x))
  | .binOp op t x y _ => .ro (sBin op t (isC x || isC y) (evalL l x) (evalL l y))
  | .unOp op _ x => .ro (Op.unary op (evalL l x))
  | .convert s d x => match makes P d with
    | true => .ef
    | false => .ro (convert s d (evalL l x))
  | .makeInterface t x => .ro (Instr.makeInterface t (evalL l x))
  | .makeFunc fn first captured => .ro (Instr.makeFunc fn (argsL l first) (argsL l captured))
  | .slice t x lo hi mx => .ro (Instr.sliceAt t (evalL l x) (lo.map (evalL l)) (hi.map (evalL l)) (mx.map (evalL l)))
  | .fieldAddr s x f => .ro (Instr.fieldAt s (evalL l x) f)
  | .field t x f => .ro (Instr.field t (evalL l x) f)
  | .indexAddr t x i => .ro (Instr.indexAt t (evalL l x) (evalL l i))
  | .index t x i => .ro (Instr.index t (evalL l x) (evalL l i))
  | .typeAssert x t u ok => .ro (Instr.typeAssert (evalL l x) t u ok)
  | .extract t i => .ro (Instr.extract (evalL l t) i)
  | .call { callee := .builtin .len, args, argTypes } => .ro (Builtin.len_ argTypes o.type (argsL l args))
  | .call { callee := .builtin .cap, args, argTypes } => .ro (Builtin.cap_ argTypes o.type (argsL l args))
  | .call { callee := .builtin .min, args, argTypes } => .ro (Builtin.min_ argTypes o.type (argsL l args))
  | .call { callee := .builtin .max, args, argTypes } => .ro (Builtin.max_ argTypes o.type (argsL l args))
  | _ => .ef
/-- A read, stated so that what it comes to is told by the types. -/
def roW (P : Program) (o : Oper) (l : List Value) (s : Sem Value) (h : Hp) (K : Value → Prop) : Prop :=
  match o.op with
  | .pick c a b => asBo (evalL l c) fun c => K (pickV c (evalL l a) (evalL l b))
  | .load t a => ldW P t (evalL l a) h K
  | .nilCheck x => oNil P (evalL l x) h K
  | .fieldAddr .. => oRd P s h fun v => asAd v fun ad => K (.pointer (some ad))
  | .indexAddr t x i => ixA P t (evalL l x) (evalL l i) h fun ad => K (.pointer (some ad))
  | .build t ps => match buildV P t (mapL l ps) with
    | some cs => K (.agg cs.toArray)
    | none => oRd P s h fun v => shape (zeroOf P t) v K
  | .binOp op t x (.const c) _ => match nilForm P op t c with
    | some neg => nlW P t neg (evalL l x) fun v => shape (zeroOf P o.type) v K
    | none => oRd P s h fun v => shape (zeroOf P o.type) v K
  | _ => oRd P s h fun v => shape (zeroOf P o.type) v K
/-- The operations that do more than read. -/
def efW (P : Program) (o : Oper) (l : List Value) (h : Hp) (K : Value → Hp → Prop) : Prop :=
  match o.op with
  | .alloc e => allocW P e h K
  | .box e x => boxW P e (evalL l x) h K
  | .buildSlice t n ps => match P.underlying t with
    | some (.slice e) => match !aggB P e && (Nat.beq (sizeB P e) 1 && (hasZero P e && (inOrd 0 (mapL l ps).toList && (Nat.beq (mapL l ps).toList.length n && Nat.ble n 1000)))) with
      | true => plL (mapL l ps).toList (nw h (.cells ((mapL l ps).toList.map (·.2)).toArray e) fun r h => K (.slice (some ⟨r, 0, none⟩) n n) h)
      | false => match inRow 0 (sizeB P e) (mapL l ps).toList with
        | some cs => match hasZero P e && (Nat.beq (mapL l ps).toList.length n && (Nat.beq cs.length (n * sizeB P e) && Nat.ble (n * sizeB P e) 1000)) with
          | true => nw h (.cells cs.toArray e) fun r h => K (.slice (some ⟨r, 0, none⟩) n n) h
          | false => oAw P (Instr.buildSlice t n (mapL l ps)) h fun v h => shape (zeroOf P t) v fun v => K v h
        | none => oAw P (Instr.buildSlice t n (mapL l ps)) h fun v h => shape (zeroOf P t) v fun v => K v h
    | _ => False
  | .store t a x => stW P t (evalL l a) (evalL l x) h (fun h => K undef h)
  | .convert s d x => oAw P (convert s d (evalL l x)) h fun v h => shape (zeroOf P o.type) v fun v => K v h
  | .makeSlice t a b => oAw P (Instr.makeSlice t (evalL l a) (evalL l b)) h fun v h => shape (zeroOf P o.type) v fun v => K v h
  | .makeMap t r => oAw P (Instr.makeMap t (r.map (evalL l))) h K
  | .mapUpdate t m k x | .insert t m k x => oSt P (Instr.mapUpdate t (evalL l m) (evalL l k) (evalL l x)) h (fun h => K undef h)
  | .lookup t x i ok => oAw P (Instr.lookup t (evalL l x) (evalL l i) ok) h fun v h => shape (zeroOf P o.type) v fun v => K v h
  | .range t x => oAw P (Instr.range t (evalL l x)) h K
  | .next it s => oAw P (Instr.next (evalL l it) s o.type) h fun v h => shape (zeroOf P o.type) v fun v => K v h
  | .call { callee := .value (.func f), args, .. } => Spec P f (argsL l args) h fun v h => shape (zeroOf P o.type) v fun v => K v h
  | .call { callee := .value f, args, .. } => oVal P (evalL l f) (argsL l args) h fun v h => shape (zeroOf P o.type) v fun v => K v h
  | .call { callee := .invoke r m, args, .. } => oNx P (callMethod (evalL l r) m (argsL l args)) h fun v h => shape (zeroOf P o.type) v fun v => K v h
  | .call { callee := .builtin b, args, argTypes } => oNx P (builtin b argTypes o.type (flags args) (argsL l args)) h fun v h => shape (zeroOf P o.type) v fun v => K v h
  | _ => False
def opW (P : Program) (o : Oper) (l : List Value) (h : Hp) (K : Value → Hp → Prop) : Prop :=
  match cls P l o with
  | .mv v => K v h
  | .ro s => roW P o l s h fun v => K v h
  | .ef => efW P o l h K

/-! ### They are the model's -/
theorem evalL_act (a : Act) : evalL a.tmps.toList = a.eval := by
  funext x
  cases x with
  | tmp t => simp [evalL, Act.eval]
  | const v => rfl
  | global g => rfl
  | func f => rfl
theorem mapL_eq (l : List Value) (ps : Array (Nat × Operand)) : mapL l ps = ps.map fun (i, x) => (i, evalL l x) := by
  unfold mapL; apply Array.ext'; simp
theorem argsL_eq (l : List Value) (xs : Array Operand) : argsL l xs = xs.map (evalL l) := by
  unfold argsL; apply Array.ext'; simp
theorem flags_eq (xs : Array Operand) : flags xs = xs.map fun | .const _ => true | _ => false := by
  unfold flags; apply Array.ext'; simp
  intro a _
  cases a <;> rfl
theorem putL_put (a : Act) (dst : Option Tmp) (v : Value) : (a.put dst v).tmps.toList = putL a.tmps.toList dst v := by
  cases dst <;> simp [Act.put, putL]
theorem put_defers (a : Act) (dst : Option Tmp) (v : Value) : (a.put dst v).defers = a.defers := by cases dst <;> rfl
theorem putL_length (l : List Value) (dst : Option Tmp) (v : Value) : (putL l dst v).length = l.length := by cases dst <;> simp [putL]
theorem eqGuard_flags (op : BinOp) (t : TypeId) (x y : Operand) (a b : Value) :
    eqGuard op t x y a b = eqGuard op t (match isC x || isC y with | true => .const undef | false => .tmp 0) (.tmp 0) a b := by
  cases x <;> cases y <;> rfl

/-- An operation that makes a value: the shape of 'execOp'. -/
def vs (s : Sem Value) : Sem Next := s.bind fun v => .pure (.value v)
def us (s : Sem Unit) : Sem Next := s.bind fun _ => .pure .skip

theorem exec_cls {P : Program} {l : List Value} {o : Oper} {s : Sem Value} (hc : cls P l o = .ro s) (h : Hp) (v : Value) (hr : rd P s h = some v) :
    rd P (execOp (evalL l) o) h = some (.value v) := by
  obtain ⟨dst, op, type, pos, after, guard⟩ := o
  have hv : ∀ s' : Sem Value, s' = s → rd P (s'.bind fun v => .pure (.value v) : Sem Next) h = some (.value v) := by
    intro s' e; subst e; rw [rd_bind, hr]; rfl
  cases op with
  | pick c a b => simp only [cls, Cls.ro.injEq] at hc; subst hc
                  cases hcv : evalL l c <;> simp [sPick, hcv, asBool, stuck, rd, Bind.bind, Sem.bind, Pure.pure] at hr
                  simp [execOp, hcv, asBool, Bind.bind, Sem.bind, Pure.pure, rd, hr]
  | build t ps => simp only [cls, Cls.ro.injEq] at hc; rw [mapL_eq] at hc; exact hv _ hc
  | load t a => simp only [cls, Cls.ro.injEq] at hc; exact hv _ hc
  | nilCheck x =>
    simp only [cls, Cls.ro.injEq] at hc; subst hc
    simp only [execOp]
    generalize evalL l x = y at *
    unfold sNil at hr
    split at hr
    · have hr' : (none : Option Value) = some v := hr
      cases hr'
    · have hr' : (none : Option Value) = some v := hr
      cases hr'
    · have hr' : (none : Option Value) = some v := hr
      cases hr'
    · cases hr
    · rename_i h1 h2 h3 h4
      have e : y = v := by simpa [rd, Pure.pure] using hr
      split
      · exact absurd rfl h1
      · exact absurd rfl h2
      · exact absurd rfl h3
      · exact absurd rfl (h4 _ _ _)
      · exact congrArg (fun z => some (Next.value z)) e
  | binOp op t x y u =>
    simp only [cls, Cls.ro.injEq] at hc
    refine hv (do eqGuard op t x y (evalL l x) (evalL l y); binOp op t (evalL l x) (evalL l y)) ?_
    rw [← hc]; unfold sBin; rw [eqGuard_flags]
  | unOp op t x => simp only [cls, Cls.ro.injEq] at hc; exact hv _ hc
  | convert s d x =>
    simp only [cls] at hc
    split at hc
    · cases hc
    · simp only [Cls.ro.injEq] at hc; exact hv _ hc
  | makeInterface t x => simp only [cls, Cls.ro.injEq] at hc; exact hv _ hc
  | makeFunc fn first captured => simp only [cls, Cls.ro.injEq] at hc; rw [argsL_eq, argsL_eq] at hc; exact hv _ hc
  | slice t x lo hi mx => simp only [cls, Cls.ro.injEq] at hc; exact hv _ hc
  | fieldAddr s x f => simp only [cls, Cls.ro.injEq] at hc; exact hv _ hc
  | field t x f => simp only [cls, Cls.ro.injEq] at hc; exact hv _ hc
  | indexAddr t x i => simp only [cls, Cls.ro.injEq] at hc; exact hv _ hc
  | index t x i => simp only [cls, Cls.ro.injEq] at hc; exact hv _ hc
  | typeAssert x t u ok => simp only [cls, Cls.ro.injEq] at hc; exact hv _ hc
  | extract t i => simp only [cls, Cls.ro.injEq] at hc; exact hv _ hc
  | call c =>
    obtain ⟨callee, args, argTypes⟩ := c
    cases callee with
    | builtin b =>
      cases b <;> first
        | (simp only [cls, Cls.ro.injEq] at hc; rw [argsL_eq] at hc
           simp only [execOp, resolve, invoke, builtin, Bind.bind, Pure.pure, Sem.bind]
           exact hv _ hc)
        | cases hc
    | value f => cases f <;> cases hc
    | invoke r m => cases hc
  | _ => cases hc

theorem exec_mv {P : Program} {l : List Value} {o : Oper} {v : Value} (hc : cls P l o = .mv v) : execOp (evalL l) o = .pure (.value v) := by
  obtain ⟨dst, op, type, pos, after, guard⟩ := o
  cases op with
  | move x => simp only [cls, Cls.mv.injEq] at hc; subst hc; rfl
  | assign x => simp only [cls, Cls.mv.injEq] at hc; subst hc; rfl
  | convert s d x => simp only [cls] at hc; split at hc <;> cases hc
  | call c =>
    obtain ⟨callee, args, argTypes⟩ := c
    cases callee with
    | builtin b => cases b <;> cases hc
    | value f => cases f <;> cases hc
    | invoke r m => cases hc
  | _ => cases hc


/-- What an operation's run leads to, off its weakest precondition. -/
theorem upon_aw {P : Program} {o : Oper} {a : Act} {w : World} {s : Sem Next} {K : Value → Hp → Prop} {next : Act → World → Prop} {Q : Exit → Act → World → Prop}
    (he : execOp a.eval o = s) (h : aw P s (Nx P K) (hp w)) (hn : ∀ v w', K v (hp w') → Same w w' → next (a.put o.dst v) w') : o.wp P a w next Q := by
  unfold Oper.wp
  rw [he]
  obtain ⟨x, w', hr, hx, hS⟩ := aw_sound P s _ w h
  rw [hr]
  cases x with
  | value v => exact hn v w' hx hS
  | skip => exact hn undef w' hx hS
  | enter f args =>
    simp only [Oper.upon]
    refine (hx w' rfl).mono fun e w'' hh => ?_
    obtain ⟨v, rfl, hK, hS'⟩ := hh
    exact hn v w'' hK (hS.trans hS')
  | _ => exact hx.elim

theorem aw_vs {P : Program} {s : Sem Value} {K : Value → Hp → Prop} {h : Hp} (H : aw P s K h) : aw P (vs s) (Nx P K) h :=
  (aw_bind P s _ _ h).2 H
theorem aw_us {P : Program} {s : Sem Unit} {K : Value → Hp → Prop} {h : Hp} (H : aw P s (fun _ h => K undef h) h) : aw P (us s) (Nx P K) h :=
  (aw_bind P s _ _ h).2 H


/-! ### The typed forms are the model's -/
theorem aw_bind' {α β : Type} {P : Program} {s : Sem α} {f : α → Sem β} {K : β → Hp → Prop} {h : Hp} (H : aw P s (fun a h => aw P (f a) K h) h) : aw P (s >>= f) K h :=
  (aw_bind P s f K h).2 H
theorem aw_info {P : Program} {t : TypeId} {i : TypeInfo} {K : TypeInfo → Hp → Prop} {h : Hp} (hi : P.info? t = some i) (H : K i h) : aw P (typeInfo t) K h := by
  unfold typeInfo
  refine aw_bind' ?_
  simp only [program, aw, hi, Pure.pure]
  exact H
theorem aw_und {P : Program} {t : TypeId} {d : TypeDesc} {K : TypeDesc → Hp → Prop} {h : Hp} (hi : P.underlying t = some d) (H : K d h) : aw P (underlying t) K h := by
  unfold underlying
  refine aw_bind' ?_
  simp only [program, aw, hi, Pure.pure]
  exact H
theorem info_of_und {P : Program} {t : TypeId} {d : TypeDesc} (h : P.underlying t = some d) : ∃ i, P.info? t = some i := by
  unfold Program.underlying at h
  cases hi : P.info? t with
  | none => simp [hi] at h
  | some i => exact ⟨i, rfl⟩
theorem sizeB_eq {P : Program} {t : TypeId} {i : TypeInfo} (h : P.info? t = some i) : sizeB P t = i.size := by simp [sizeB, h]
theorem aw_size {P : Program} {t : TypeId} {i : TypeInfo} {K : Nat → Hp → Prop} {h : Hp} (hi : P.info? t = some i) (H : K (sizeB P t) h) : aw P (sizeOf t) K h := by
  unfold sizeOf
  refine aw_bind' (aw_info hi ?_)
  simp only [aw, Pure.pure]
  rw [← sizeB_eq hi]; exact H
theorem rd_info {P : Program} {t : TypeId} {i : TypeInfo} {h : Hp} (hi : P.info? t = some i) : rd P (typeInfo t) h = some i := by
  unfold typeInfo
  change rd P (Sem.bind program _) h = _
  rw [rd_bind]
  simp only [program, rd, Option.bind_some, hi]
  rfl
theorem rd_und {P : Program} {t : TypeId} {h : Hp} : rd P (underlying t) h = P.underlying t := by
  unfold underlying
  change rd P (Sem.bind program _) h = _
  rw [rd_bind]
  simp only [program, rd, Option.bind_some]
  cases P.underlying t <;> rfl
theorem rd_size {P : Program} {t : TypeId} {i : TypeInfo} {h : Hp} (hi : P.info? t = some i) : rd P (sizeOf t) h = some (sizeB P t) := by
  unfold sizeOf
  change rd P (Sem.bind (typeInfo t) _) h = _
  rw [rd_bind, rd_info hi, sizeB_eq hi]
  rfl
theorem rd_agg {P : Program} {t : TypeId} {d : TypeDesc} {h : Hp} (hd : P.underlying t = some d) : rd P (isAgg t) h = some (aggB P t) := by
  unfold isAgg aggB
  change rd P (Sem.bind (underlying t) _) h = _
  rw [rd_bind, rd_und, hd]
  cases d <;> rfl

theorem allocW_aw {P : Program} {e : TypeId} {h : Hp} {K : Value → Hp → Prop} (H : allocW P e h K) : aw P (Instr.alloc e true (.tuple #[])) K h := by
  unfold allocW at H
  split at H
  · rename_i z hz
    cases hi : P.info? e with
    | none => simp [hi] at hz
    | some i =>
      simp only [hi, Option.bind_some] at hz
      unfold Instr.alloc zeroValue
      refine aw_bind' (aw_bind' (aw_info hi ?_))
      simp only [hz]
      exact fun r hr => H r hr
  · exact H.elim
theorem cells_plain {v : Value} (h : flatV v = true) : v.cells = #[v] := by cases v <;> first | rfl | cases h
theorem boxW_aw {P : Program} {e : TypeId} {v : Value} {h : Hp} {K : Value → Hp → Prop} (H : boxW P e v h K) : aw P (Instr.box e v) K h := by
  unfold boxW at H
  split at H
  · exact fun r hr => H r hr
  · unfold pl at H
    split at H
    · rename_i hv
      intro r hr
      have := H r hr
      rw [← cells_plain hv] at this
      exact this
    · exact H.elim

theorem st_aw {P : Program} {ad : Addr} {v : Value} {h : Hp} {K : Unit → Hp → Prop} (H : st h ad v (K ())) : aw P (store ad v) K h := by
  unfold st pl at H
  split at H
  · rename_i hv
    simp only [store, aw]
    cases hb : h ad.block with
    | none => rw [hb] at H; exact H.elim
    | some o =>
      rw [hb] at H
      cases o <;> first
        | exact ⟨hv, H.1.1, H.1.2.1, H.1.2.2, H.2⟩
        | exact H.elim
  · exact H.elim
theorem stL_aw {P : Program} {ad : Addr} {K : Unit → Hp → Prop} : ∀ {l : List Value} {h : Hp} {i : Nat}, stL l h ad i (K ()) → aw P (storeCells ad l i) K h
  | [], _, _, H => H
  | c :: r, h, i, H => by
    unfold storeCells
    exact aw_bind' (st_aw (K := fun _ h' => aw P (storeCells ad r (i + 1)) K h') (st_mono (fun h' hh => stL_aw hh) H))
where
  st_mono {h : Hp} {ad : Addr} {v : Value} {K K' : Hp → Prop} (hk : ∀ h, K h → K' h) (H : st h ad v K) : st h ad v K' := by
    unfold st pl at H ⊢
    cases hv : flatV v with
    | false => rw [hv] at H; exact H
    | true =>
      rw [hv] at H
      dsimp only at H ⊢
      cases hb : h ad.block with
      | none => rw [hb] at H; exact H
      | some o => rw [hb] at H; cases o <;> first | exact ⟨H.1, hk _ H.2⟩ | exact H
theorem info_of_size {P : Program} {t : TypeId} {n : Nat} (h : sizeB P t = n + 1) : ∃ i, P.info? t = some i := by
  unfold sizeB at h
  cases hi : P.info? t with
  | none => simp [hi] at h
  | some i => exact ⟨i, rfl⟩
theorem info_of_agg {P : Program} {t : TypeId} (h : aggB P t = true) : ∃ i, P.info? t = some i := by
  unfold aggB at h
  cases hu : P.underlying t with
  | none => simp [hu] at h
  | some d => exact info_of_und hu
theorem stW_aw {P : Program} {t : TypeId} {x v : Value} {h : Hp} {K : Hp → Prop} (H : stW P t x v h K) : oSt P (Instr.storeAt t x v) h K := by
  unfold stW at H
  split at H
  · rename_i ad
    split at H
    · split at H
      · rename_i hs
        have hs' : sizeB P t = 1 := Nat.eq_of_beq_eq_true hs
        obtain ⟨i, hi⟩ := info_of_size hs'
        unfold oSt Instr.storeAt
        refine aw_bind' ?_
        simp only [Instr.sureAddr, aw, Pure.pure]
        unfold storeVar
        have hp : flatV v = true := by
          unfold st pl at H
          split at H
          · rename_i hv; exact hv
          · exact H.elim
        refine aw_bind' (aw_size hi ?_)
        simp only [cells_plain hp, hs', List.size_toArray, List.length_cons, List.length_nil, Nat.zero_add, ne_eq, not_true_eq_false, if_false]
        refine aw_bind' ?_
        refine stL_aw (K := fun _ h => K h) (l := [v]) (i := 0) ?_
        exact H
      · exact H
    · rename_i ha
      obtain ⟨i, hi⟩ := info_of_agg ha
      split at H
      · split at H
        · rename_i cs
          split at H
          · rename_i hs
            have hs' := Nat.eq_of_beq_eq_true hs
            unfold oSt Instr.storeAt
            refine aw_bind' ?_
            simp only [Instr.sureAddr, aw, Pure.pure]
            unfold storeVar
            refine aw_bind' (aw_size hi ?_)
            have h1 : (Value.agg cs).cells.size = sizeB P t := by simpa [Value.cells] using hs'
            simp only [h1, ne_eq, not_true_eq_false, if_false]
            exact stL_aw (K := fun _ h => K h) H
          · exact H.elim
        · exact H.elim
      · exact H
  · exact H.elim

theorem rd_pure' {α : Type} {P : Program} {h : Hp} (a : α) : rd P (Pure.pure a : Sem α) h = some a := rfl
theorem splice_list (off : Nat) : ∀ (l : List Value) (j : Nat) (cells : Array Value) (pre rest : List Value), cells.toList = pre ++ rest → pre.length = off + j → l.length ≤ rest.length →
    ((l.zipIdx j).foldl (fun cs (x : Value × Nat) => cs.setIfInBounds (off + x.2) x.1) cells).toList = pre ++ l ++ rest.drop l.length := by
  intro l
  induction l with
  | nil => intro j cells pre rest h _ _; simpa using h
  | cons c l ih =>
    intro j cells pre rest h hp hl
    cases rest with
    | nil => simp at hl
    | cons r rest =>
      simp only [List.zipIdx_cons, List.foldl_cons]
      have h1 : (cells.setIfInBounds (off + j) c).toList = (pre ++ [c]) ++ rest := by
        rw [Array.toList_setIfInBounds, h, ← hp]
        simp
      rw [ih (j + 1) _ (pre ++ [c]) rest h1 (by simp [hp]; omega) (by simpa using hl)]
      simp
theorem roW_sound {P : Program} {o : Oper} {l : List Value} {s : Sem Value} {h : Hp} {K : Value → Prop} (hc : cls P l o = .ro s) (H : roW P o l s h K) : ∃ v, rd P s h = some v ∧ K v := by
  have gen : ∀ K' : Value → Prop, (∀ v, K' v → K v) → oRd P s h K' → ∃ v, rd P s h = some v ∧ K v := by
    intro K' hk H
    unfold oRd at H
    split at H
    · rename_i v hv; exact ⟨v, hv, hk _ H⟩
    · exact H.elim
  obtain ⟨dst, op, type, pos, after, guard⟩ := o
  cases op with
  | pick c a b =>
    simp only [cls, Cls.ro.injEq] at hc; subst hc
    simp only [roW] at H
    unfold asBo at H
    split at H
    · rename_i b' hb
      refine ⟨_, ?_, H⟩
      rw [hb]
      unfold sPick
      simp only [asBool, Bind.bind, Sem.bind, Pure.pure, rd, Option.some.injEq]
      unfold pickV
      generalize evalL l a = va
      generalize evalL l b = vb
      cases va <;> cases vb <;> cases b' <;> rfl
    · exact H.elim
  | load t a =>
    simp only [cls, Cls.ro.injEq] at hc; subst hc
    simp only [roW] at H
    unfold ldW at H
    split at H
    · rename_i ad hx
      rw [hx]
      split at H
      · rename_i ha
        split at H
        · rename_i d hd
          unfold ld at H
          split at H
          · rename_i v hv
            refine ⟨v, ?_, shp_ok H⟩
            unfold Instr.loadAt
            change rd P (Sem.bind (Sem.pure ad) _) h = _
            rw [rd_bind]
            simp only [rd, Option.bind_some]
            unfold loadVar
            change rd P (Sem.bind (isAgg t) _) h = _
            rw [rd_bind, rd_agg hd, ha]
            simp [rd, Go.load, hv]
          · exact H.elim
        · exact H.elim
      · rename_i ha
        split at H
        · rename_i hs
          simp only [Bool.and_eq_true] at hs
          have hs' := Nat.eq_of_beq_eq_true hs.1
          obtain ⟨i, hi⟩ := info_of_agg ha
          have hd : ∃ d, P.underlying t = some d := by
            unfold aggB at ha
            cases hu : P.underlying t with
            | none => simp [hu] at ha
            | some d => exact ⟨d, rfl⟩
          obtain ⟨d, hd⟩ := hd
          have key : ∀ (zs : List Value) (i : Nat) (acc : List Value), ldL zs h ad i acc (fun l => K (.agg l.toArray)) →
              ∃ l, rd P (loadCellsFrom ad i zs.length acc.toArray) h = some l ∧ K (.agg l) := by
            intro zs
            induction zs with
            | nil => intro i acc H; exact ⟨acc.toArray, rfl, H⟩
            | cons z zs ih =>
              intro i acc H
              simp only [ldL] at H
              unfold ld at H
              split at H
              · rename_i v hv
                have H' := shp_ok (K := fun v => ldL zs h ad (i + 1) (acc ++ [v]) fun l => K (.agg l.toArray)) H
                obtain ⟨l, h1, h2⟩ := ih _ _ H'
                refine ⟨l, ?_, h2⟩
                simp only [List.length_cons, loadCellsFrom]
                change rd P (Sem.bind (Go.load (ad.add i)) _) h = _
                rw [rd_bind]
                simp only [Go.load, rd, hv, Option.bind_some]
                rw [← h1]
                simp
              · exact H.elim
          obtain ⟨l, h1, h2⟩ := key _ 0 [] H
          refine ⟨.agg l, ?_, h2⟩
          unfold Instr.loadAt
          change rd P (Sem.bind (Sem.pure ad) _) h = _
          rw [rd_bind]
          simp only [rd, Option.bind_some]
          unfold loadVar
          change rd P (Sem.bind (isAgg t) _) h = _
          rw [rd_bind, rd_agg hd, ha]
          simp only [Option.bind_some, if_true]
          change rd P (Sem.bind (sizeOf t) _) h = _
          rw [rd_bind, rd_size hi]
          simp only [Option.bind_some]
          change rd P (Sem.bind (loadCells ad (sizeB P t)) _) h = _
          rw [rd_bind]
          unfold loadCells
          rw [← hs', h1]
          rfl
        · rw [hx] at gen; exact gen K (fun _ h => h) H
    · exact H.elim
  | nilCheck x =>
    simp only [cls, Cls.ro.injEq] at hc; subst hc
    simp only [roW] at H
    unfold oNil at H
    split at H
    · rename_i a hx
      rw [hx]
      unfold nz at H
      split at H
      · exact ⟨_, rfl, H⟩
      · exact H.elim
    · exact gen K (fun _ h => h) H
  | fieldAddr t x f =>
    refine gen _ ?_ H
    intro v hv
    unfold asAd at hv
    split at hv <;> first | exact hv | exact hv.elim
  | indexAddr t x f =>
    simp only [cls, Cls.ro.injEq] at hc; subst hc
    refine gen _ ?_ H
    intro v hv
    unfold asAd at hv
    split at hv <;> first | exact hv | exact hv.elim
  | build t ps =>
    simp only [cls, Cls.ro.injEq] at hc; subst hc
    simp only [roW] at H
    split at H
    · rename_i cs hb
      exact ⟨_, build_sound hb, H⟩
    · exact gen _ (fun v hv => shape_ok hv) H
  | binOp op t x y u =>
    simp only [cls, Cls.ro.injEq] at hc
    cases y with
    | const c =>
      simp only [roW] at H
      cases hn : nilForm P op t c with
      | none => rw [hn] at H; exact gen _ (fun v hv => shape_ok hv) H
      | some neg =>
        rw [hn] at H
        subst hc
        obtain ⟨v, h1, h2⟩ := nl_sound hn H
        refine ⟨v, ?_, shape_ok h2⟩
        simpa [isC, evalL] using h1
    | _ => exact gen _ (fun v hv => shape_ok hv) H
  | _ => exact gen _ (fun v hv => shape_ok hv) H
where
  build_sound {P : Program} {t : TypeId} {ps : Array (Nat × Value)} {h : Hp} {cs : List Value} (hb : buildV P t ps = some cs) : rd P (Instr.build t ps) h = some (.agg cs.toArray) := by
    unfold buildV at hb
    split at hb
    · rename_i hz
      simp only [Bool.and_eq_true] at hz
      split at hb
      · rename_i pls hpls
        split at hb
        · rename_i zs hzs
          split at hb
          · unfold Instr.build
            unfold fieldsAt at hpls
            split at hpls
            · rename_i fields hu
              simp only [Option.some.injEq] at hpls
              obtain ⟨i, hi⟩ := info_of_und hu
              have hzero : i.zero = some (.agg zs) := by
                have h1 := hz.2
                unfold hasZero at h1
                unfold zeroOf at hzs
                rw [hi] at h1 hzs
                simp only [Option.bind_some] at h1
                dsimp only at hzs
                cases hi0 : i.zero with
                | none => simp [hi0] at h1
                | some z => rw [hi0] at hzs; dsimp only at hzs; rw [hzs]
              change rd P (Sem.bind (zeroValue t) _) h = _
              have hzv : rd P (zeroValue t) h = some (.agg zs) := by
                unfold zeroValue
                change rd P (Sem.bind (typeInfo t) _) h = _
                rw [rd_bind, rd_info hi]
                simp only [Option.bind_some, hzero]
                rfl
              rw [rd_bind, hzv]
              simp only [Option.bind_some]
              change rd P (Sem.bind (underlying t) _) h = _
              rw [rd_bind, rd_und, hu]
              simp only [Option.bind_some]
              have hmap : rd P (fields.mapM fun f => do pure (f.offset, ← sizeOf f.type)) h = some (fields.toList.map fun f => (f.offset, sizeB P f.type)).toArray := by
                rw [Array.mapM_eq_mapM_toList]
                have hall : ∀ f ∈ fields.toList, (P.info? f.type).isSome = true := by
                  have h1 := hz.1
                  unfold infoAll at h1
                  rw [hu] at h1
                  exact List.all_eq_true.1 h1
                have key : ∀ fs : List Field, (∀ f ∈ fs, (P.info? f.type).isSome = true) → rd P (fs.mapM fun f => (do pure (f.offset, ← sizeOf f.type) : Sem (Nat × Nat))) h = some (fs.map fun f => (f.offset, sizeB P f.type)) := by
                  intro fs
                  induction fs with
                  | nil => intro _; rfl
                  | cons f fs ih =>
                    intro hf
                    rw [List.mapM_cons]
                    obtain ⟨j, hj⟩ := Option.isSome_iff_exists.1 (hf f (List.mem_cons_self ..))
                    change rd P (Sem.bind (Sem.bind (sizeOf f.type) _) _) h = _
                    rw [rd_bind, rd_bind, rd_size hj]
                    simp only [Option.bind_some, rd_pure']
                    change rd P (Sem.bind (List.mapM _ fs) _) h = _
                    rw [rd_bind, ih (fun f' h' => hf f' (List.mem_cons_of_mem _ h'))]
                    rfl
                change rd P (Functor.map List.toArray (fields.toList.mapM _)) h = _
                rw [map_eq_pure_bind]
                change rd P (Sem.bind _ _) h = _
                rw [rd_bind, key _ hall]
                rfl
              change rd P (Sem.bind (fields.mapM _) _) h = _
              rw [rd_bind, hmap]
              simp only [Option.bind_some]
              have hfill : ∀ (parts : List (Nat × Value)) (cells : Array Value) (out : List Value), fillL pls cells.toList parts = some out →
                  Instr.fill (fun i => pls[i]?) cells parts = some out.toArray := by
                intro parts
                induction parts with
                | nil => intro cells out ho; simp only [fillL, Option.some.injEq] at ho; subst ho; simp [Instr.fill]
                | cons x parts ih =>
                  obtain ⟨j, v⟩ := x
                  intro cells out ho
                  simp only [fillL] at ho
                  simp only [Instr.fill]
                  cases hj : pls[j]? with
                  | none => simp [hj] at ho
                  | some os =>
                    obtain ⟨off, size⟩ := os
                    rw [hj] at ho
                    dsimp only at ho ⊢
                    split at ho
                    · rename_i hbb
                      simp only [Bool.and_eq_true] at hbb
                      have h1 := Nat.eq_of_beq_eq_true hbb.1
                      have h2 := Nat.le_of_ble_eq_true hbb.2
                      have hvs : v.cells.size = size := by simpa using h1
                      rw [Array.length_toList] at h2
                      have hcond : (v.cells.size ≠ size || off + v.cells.size > cells.size) = false := by
                        simp [hvs]; omega
                      rw [if_neg (by rw [hcond]; simp)]
                      refine ih _ _ ?_
                      rw [← ho]
                      congr 1
                      rw [← Array.foldl_toList, Array.toList_zipIdx]
                      have hsp := splice_list off v.cells.toList 0 cells (cells.toList.take off) (cells.toList.drop off) (List.take_append_drop off _).symm
                        (by rw [List.length_take, Array.length_toList]; omega) (by rw [h1, List.length_drop, Array.length_toList]; omega)
                      rw [h1, List.drop_drop] at hsp
                      rw [← List.append_assoc]
                      exact hsp
                    · cases ho
              subst hpls
              have := hfill ps.toList zs cs hb
              simp only [List.getElem?_toArray, Value.cells]
              rw [this]
              rfl
            · cases hpls
          · cases hb
        · cases hb
      · cases hb
    · cases hb
  nl_sound {P : Program} {op : BinOp} {t : TypeId} {c x : Value} {neg : Bool} {h : Hp} {K : Value → Prop} (hn : nilForm P op t c = some neg) (H : nlW P t neg x K) :
      ∃ v, rd P (sBin op t true x c) h = some v ∧ K v := by
    have eq : ∀ (d : TypeDesc) (r : Bool) (x c : Value), P.underlying t = some d → (∀ h, rd P (Op.equalIn (9999 + 1) t x c) h = some r) →
        (∀ h, rd P (eqGuard op t (.const undef) (.tmp 0) x c) h = some ()) → (op = .eql → binOp op t x c = (do pure (.bool (← Op.equal t x c)))) →
        (op = .neq → binOp op t x c = (do pure (.bool (!(← Op.equal t x c))))) → (op = .eql ∨ op = .neq) →
        rd P (sBin op t true x c) h = some (.bool (nb (op == .neq) r)) := by
      intro d r x c hd he hg h1 h2 ho
      unfold sBin
      change rd P (Sem.bind (eqGuard op t (.const undef) (.tmp 0) x c) _) h = _
      rw [rd_bind, hg]
      simp only [Option.bind_some]
      rcases ho with rfl | rfl
      · rw [h1 rfl]
        change rd P (Sem.bind (Op.equalIn (9999 + 1) t x c) _) h = _
        rw [rd_bind, he]; rfl
      · rw [h2 rfl]
        change rd P (Sem.bind (Op.equalIn (9999 + 1) t x c) _) h = _
        rw [rd_bind, he]; rfl
    have eqIn : ∀ (d : TypeDesc) (f : TypeDesc → Sem Bool) (r : Bool), P.underlying t = some d → (∀ h, rd P (f d) h = some r) → ∀ h, rd P (Sem.bind (underlying t) f) h = some r := by
      intro d f r hd hf h
      rw [rd_bind, rd_und, hd]; exact hf h
    have hop : op = .eql ∧ neg = false ∨ op = .neq ∧ neg = true := by
      unfold nilForm at hn
      split at hn
      · split at hn <;> first | (split at hn <;> first | (cases hn; exact .inl ⟨rfl, rfl⟩) | cases hn) | cases hn
      · split at hn <;> first | (split at hn <;> first | (cases hn; exact .inr ⟨rfl, rfl⟩) | cases hn) | cases hn
      · cases hn
    have hneg : neg = (op == .neq) := by rcases hop with ⟨rfl, rfl⟩ | ⟨rfl, rfl⟩ <;> rfl
    have ho : op = .eql ∨ op = .neq := by rcases hop with ⟨rfl, _⟩ | ⟨rfl, _⟩ <;> simp
    have hc : (∃ ms, P.underlying t = some (.interface ms) ∧ c = .nilIface) ∨ (∃ e, P.underlying t = some (.pointer e) ∧ c = .pointer none) ∨ (∃ e n m, P.underlying t = some (.slice e) ∧ c = .slice none n m) := by
      have fin : ∀ b : Bool, (match P.underlying t with
          | some (.interface _) => match isNilIface c with | true => some b | false => none
          | some (.pointer _) => match isNilPt c with | true => some b | false => none
          | some (.slice _) => match isNilSl c with | true => some b | false => none
          | _ => none) = some neg → (∃ ms, P.underlying t = some (.interface ms) ∧ c = .nilIface) ∨ (∃ e, P.underlying t = some (.pointer e) ∧ c = .pointer none) ∨ (∃ e n m, P.underlying t = some (.slice e) ∧ c = .slice none n m) := by
        intro b hb
        split at hb
        · rename_i ms hu
          split at hb
          · rename_i hi
            left
            refine ⟨ms, hu, ?_⟩
            unfold isNilIface at hi
            split at hi
            · rfl
            · cases hi
          · cases hb
        · rename_i e hu
          split at hb
          · rename_i hi
            right; left
            refine ⟨e, hu, ?_⟩
            unfold isNilPt at hi
            split at hi
            · rfl
            · cases hi
          · cases hb
        · rename_i e hu
          split at hb
          · rename_i hi
            right; right
            unfold isNilSl at hi
            split at hi
            · exact ⟨e, _, _, hu, rfl⟩
            · cases hi
          · cases hb
        · cases hb
      unfold nilForm at hn
      split at hn
      · exact fin _ hn
      · exact fin _ hn
      · cases hn
    rw [hneg] at H
    unfold nlW at H
    rcases hc with ⟨ms, hu, rfl⟩ | ⟨e, hu, rfl⟩ | ⟨e, n, m, hu, rfl⟩
    · rw [hu] at H
      dsimp only at H
      split at H
      · refine ⟨_, eq _ true .nilIface .nilIface hu (fun h => eqIn _ _ true hu (fun h => rfl) h) ?_ (fun e => by subst e; rfl) (fun e => by subst e; rfl) ho, H⟩
        intro h
        rcases ho with rfl | rfl <;> rfl
      · refine ⟨_, eq _ false (.iface _ _) .nilIface hu (fun h => eqIn _ _ false hu (fun h => rfl) h) ?_ (fun e => by subst e; rfl) (fun e => by subst e; rfl) ho, H⟩
        intro h
        rcases ho with rfl | rfl <;> rfl
      · exact H.elim
    · rw [hu] at H
      dsimp only [asPt] at H
      split at H
      · rename_i a
        refine ⟨_, eq _ a.isNone (.pointer a) (.pointer none) hu (fun h => eqIn _ _ a.isNone hu (fun h => by cases a <;> rfl) h) ?_ (fun e => by subst e; rfl) (fun e => by subst e; rfl) ho, H⟩
        intro h
        rcases ho with rfl | rfl <;> rfl
      · exact H.elim
    · rw [hu] at H
      dsimp only [asSl] at H
      split at H
      · rename_i a n' m'
        refine ⟨_, eq _ a.isNone (.slice a n' m') (.slice none n m) hu (fun h => eqIn _ _ a.isNone hu (fun h => by cases a <;> rfl) h) ?_ (fun e => by subst e; rfl) (fun e => by subst e; rfl) ho, H⟩
        intro h
        rcases ho with rfl | rfl <;> rfl
      · exact H.elim

theorem upon_spec {P : Program} {o : Oper} {a : Act} {w : World} {f : FuncId} {args : Array Value} {K : Value → Hp → Prop} {next : Act → World → Prop} {Q : Exit → Act → World → Prop}
    (he : execOp a.eval o = callFunc f args) (h : Spec P f args (hp w) K) (hn : ∀ v w', K v (hp w') → Same w w' → next (a.put o.dst v) w') : o.wp P a w next Q := by
  unfold Oper.wp
  rw [he, h.1 w]
  simp only [Oper.upon]
  refine (h.2 w rfl).mono fun e w'' hh => ?_
  obtain ⟨v, rfl, hK, hS'⟩ := hh
  exact hn v w'' hK hS'

theorem aw_shape {P : Program} {s : Sem Value} {z : Value} {h : Hp} {K : Value → Hp → Prop} (H : oAw P s h fun v h => shape z v fun v => K v h) : aw P s K h :=
  aw_mono (fun v h hv => shape_ok hv) H
theorem fill_row (size : Nat) : ∀ (parts : List (Nat × Value)) (i : Nat) (cs : List Value) (cells : Array Value) (pre rest : List Value), inRow i size parts = some cs →
    cells.toList = pre ++ rest → pre.length = i * size → rest.length = cs.length →
    Instr.fill (fun i => some (i * size, size)) cells parts = some (pre ++ cs).toArray := by
  intro parts
  induction parts with
  | nil =>
    intro i cs cells pre rest h hc hp hl
    simp only [inRow, Option.some.injEq] at h
    subst h
    have : rest = [] := by simpa using hl
    subst this
    simp only [Instr.fill, ← hc]
  | cons x parts ih =>
    obtain ⟨j, v⟩ := x
    intro i cs cells pre rest h hc hp hl
    simp only [inRow] at h
    split at h
    · rename_i hb
      simp only [Bool.and_eq_true] at hb
      have hij := Nat.eq_of_beq_eq_true hb.1
      have hsz := Nat.eq_of_beq_eq_true hb.2
      subst hij
      split at h
      · rename_i l hl'
        simp only [Option.some.injEq] at h
        subst h
        have hvs : v.cells.size = size := by simpa using hsz
        have hlen : rest.length = size + l.length := by rw [hl, List.length_append, hsz]
        have hcs : cells.size = pre.length + rest.length := by rw [← Array.length_toList, hc, List.length_append]
        simp only [Instr.fill]
        have hcond : (v.cells.size ≠ size || i * size + v.cells.size > cells.size) = false := by
          simp [hvs]; omega
        rw [if_neg (by rw [hcond]; simp)]
        have hsp : (v.cells.zipIdx.foldl (fun cs (x : Value × Nat) => cs.setIfInBounds (i * size + x.2) x.1) cells).toList = (pre ++ v.cells.toList) ++ rest.drop size := by
          rw [← Array.foldl_toList, Array.toList_zipIdx]
          have := splice_list (i * size) v.cells.toList 0 cells pre rest hc (by simpa using hp) (by rw [hsz]; omega)
          rw [hsz] at this
          exact this
        have := ih (i + 1) l _ (pre ++ v.cells.toList) (rest.drop size) hl' hsp (by rw [List.length_append, hp, hsz, Nat.succ_mul]) (by rw [List.length_drop]; omega)
        rw [List.append_assoc] at this
        exact this
      · cases h
    · cases h
theorem buildW_aw {P : Program} {t : TypeId} {n : Nat} {ps : Array (Nat × Value)} {h : Hp} {K : Value → Hp → Prop}
    (H : match P.underlying t with
    | some (.slice e) => match inRow 0 (sizeB P e) ps.toList with
      | some cs => match hasZero P e && (Nat.beq ps.toList.length n && (Nat.beq cs.length (n * sizeB P e) && Nat.ble (n * sizeB P e) 1000)) with
        | true => nw h (.cells cs.toArray e) fun r h => K (.slice (some ⟨r, 0, none⟩) n n) h
        | false => oAw P (Instr.buildSlice t n ps) h fun v h => shape (zeroOf P t) v fun v => K v h
      | none => oAw P (Instr.buildSlice t n ps) h fun v h => shape (zeroOf P t) v fun v => K v h
    | _ => False) : aw P (Instr.buildSlice t n ps) K h := by
  split at H
  · rename_i e he
    unfold Instr.buildSlice
    split at H
    · rename_i cs hcs
      split at H
      · rename_i hb
        simp only [Bool.and_eq_true] at hb
        obtain ⟨h0, h1, h2, h3⟩ := hb
        have h1' := Nat.eq_of_beq_eq_true h1
        have h2' := Nat.eq_of_beq_eq_true h2
        have h3' := Nat.le_of_ble_eq_true h3
        have hz : ∃ i z, P.info? e = some i ∧ i.zero = some z := by
          unfold hasZero at h0
          cases hi : P.info? e with
          | none => simp [hi] at h0
          | some i =>
            cases hz : i.zero with
            | none => simp [hi, hz] at h0
            | some z => exact ⟨i, z, rfl, hz⟩
        obtain ⟨i, z, hi, hz⟩ := hz
        refine aw_bind' (aw_und he ?_)
        refine aw_bind' (aw_size hi ?_)
        rw [if_neg (by omega)]
        have fin : ∀ zero : Array Value, aw P (do
            let some cells := Instr.fill (fun i => some (i * sizeB P e, sizeB P e)) ((Array.range (n * sizeB P e)).map (zero[· % zero.size]!)) ps.toList
              | stuck "buildSlice: a part of the wrong size"
            pure (.slice (some (← newRow e cells)) n n)) K h := by
          intro zero
          have := fill_row (sizeB P e) ps.toList 0 cs ((Array.range (n * sizeB P e)).map (zero[· % zero.size]!)) [] _ hcs (List.nil_append _).symm (by simp) (by simp [h2'])
          rw [this]
          simp only [List.nil_append]
          exact fun r hr => H r hr
        split
        · refine aw_bind' ?_
          exact fin #[]
        · refine aw_bind' (aw_bind' ?_)
          refine aw_info hi ?_
          simp only [hz]
          exact fin z.cells
      · exact aw_mono (fun v h hv => shape_ok hv) H
    · exact aw_mono (fun v h hv => shape_ok hv) H
  · exact H.elim

theorem plL_ok : ∀ {l : List (Nat × Value)} {A : Prop}, plL l A → (∀ p ∈ l, flatV p.2 = true) ∧ A
  | [], A, h => ⟨by simp, h⟩
  | (j, v) :: r, A, h => by
    unfold plL pl at h
    split at h
    · rename_i hv
      obtain ⟨h1, h2⟩ := plL_ok h
      exact ⟨fun p hp => by rcases List.mem_cons.1 hp with rfl | hp; exact hv; exact h1 p hp, h2⟩
    · exact h.elim
theorem inRow_flat : ∀ {l : List (Nat × Value)} {i : Nat}, inOrd i l = true → (∀ p ∈ l, flatV p.2 = true) → inRow i 1 l = some (l.map (·.2))
  | [], i, _, _ => rfl
  | (j, v) :: r, i, h, hf => by
    unfold inOrd at h
    simp only [Bool.and_eq_true] at h
    have hv : flatV v = true := hf (j, v) (List.mem_cons_self ..)
    have ih := inRow_flat h.2 fun p hp => hf p (List.mem_cons_of_mem _ hp)
    unfold inRow
    rw [cells_plain hv]
    have : (Nat.beq i j && Nat.beq (#[v] : Array Value).toList.length 1) = true := by simp [h.1]
    rw [this, ih]
    rfl
theorem buildP_aw {P : Program} {t : TypeId} {n : Nat} {ps : Array (Nat × Value)} {h : Hp} {K : Value → Hp → Prop}
    (H : match P.underlying t with
    | some (.slice e) => match !aggB P e && (Nat.beq (sizeB P e) 1 && (hasZero P e && (inOrd 0 ps.toList && (Nat.beq ps.toList.length n && Nat.ble n 1000)))) with
      | true => plL ps.toList (nw h (.cells (ps.toList.map (·.2)).toArray e) fun r h => K (.slice (some ⟨r, 0, none⟩) n n) h)
      | false => match inRow 0 (sizeB P e) ps.toList with
        | some cs => match hasZero P e && (Nat.beq ps.toList.length n && (Nat.beq cs.length (n * sizeB P e) && Nat.ble (n * sizeB P e) 1000)) with
          | true => nw h (.cells cs.toArray e) fun r h => K (.slice (some ⟨r, 0, none⟩) n n) h
          | false => oAw P (Instr.buildSlice t n ps) h fun v h => shape (zeroOf P t) v fun v => K v h
        | none => oAw P (Instr.buildSlice t n ps) h fun v h => shape (zeroOf P t) v fun v => K v h
    | _ => False) : aw P (Instr.buildSlice t n ps) K h := by
  refine buildW_aw ?_
  split at H
  · rename_i e he
    split at H
    · rename_i hb
      simp only [Bool.and_eq_true] at hb
      obtain ⟨_, h1, h2, h3, h4, h5⟩ := hb
      obtain ⟨hf, H⟩ := plL_ok H
      have e1 := Nat.eq_of_beq_eq_true h1
      have e4 := Nat.eq_of_beq_eq_true h4
      rw [e1, inRow_flat h3 hf]
      have : (hasZero P e && (Nat.beq ps.toList.length n && (Nat.beq (ps.toList.map (·.2)).length (n * 1) && Nat.ble (n * 1) 1000))) = true := by
        rw [h2, h4, List.length_map, e4, Nat.mul_one, h5]; simp
      dsimp only
      rw [this]
      exact H
    · exact H
  · exact H.elim
theorem efW_sound {P : Program} {o : Oper} {a : Act} {w : World} {K : Value → Hp → Prop} {next : Act → World → Prop} {Q : Exit → Act → World → Prop}
    (h : efW P o a.tmps.toList (hp w) K) (hn : ∀ v w', K v (hp w') → Same w w' → next (a.put o.dst v) w') : o.wp P a w next Q := by
  obtain ⟨dst, op, type, pos, after, guard⟩ := o
  simp only [efW, evalL_act, mapL_eq, argsL_eq, flags_eq] at h
  cases op with
  | alloc e => exact upon_aw (s := vs _) rfl (aw_vs (allocW_aw h)) hn
  | box e x => exact upon_aw (s := vs _) rfl (aw_vs (boxW_aw h)) hn
  | buildSlice t n ps => exact upon_aw (s := vs _) rfl (aw_vs (buildP_aw h)) hn
  | store t b x => exact upon_aw (s := us _) rfl (aw_us (stW_aw h)) hn
  | convert s d x => exact upon_aw (s := vs _) rfl (aw_vs (aw_shape h)) hn
  | makeSlice t b c => exact upon_aw (s := vs _) rfl (aw_vs (aw_shape h)) hn
  | makeMap t r => exact upon_aw (s := vs _) rfl (aw_vs h) hn
  | mapUpdate t m k x => exact upon_aw (s := us _) rfl (aw_us h) hn
  | insert t m k x => exact upon_aw (s := us _) rfl (aw_us h) hn
  | lookup t x i ok => exact upon_aw (s := vs _) rfl (aw_vs (aw_shape h)) hn
  | range t x => exact upon_aw (s := vs _) rfl (aw_vs h) hn
  | next it s => exact upon_aw (s := vs _) rfl (aw_vs (aw_shape h)) hn
  | call c =>
    obtain ⟨callee, args, argTypes⟩ := c
    cases callee with
    | builtin b => exact upon_aw rfl h fun v w' hv hS => hn v w' (shape_ok hv) hS
    | value f =>
      cases f with
      | func f =>
        refine upon_spec (f := f) (args := args.map a.eval) ?_ h fun v w' hv hS => hn v w' (shape_ok hv) hS
        simp [execOp, resolve, Deferred.ofValue, Act.eval, invoke, Bind.bind, Sem.bind, Pure.pure]
      | _ =>
        dsimp only at h
        unfold oVal at h
        split at h
        · rename_i g first captured hg
          refine upon_spec (f := g) (args := first ++ args.map a.eval ++ captured) ?_ h fun v w' hv hS => hn v w' (shape_ok hv) hS
          simp only [execOp, resolve, hg]
          simp [Deferred.ofValue, invoke, Bind.bind, Sem.bind, Pure.pure]
        · exact h.elim
    | invoke r m =>
      refine upon_aw (s := callMethod (a.eval r) m (args.map a.eval)) ?_ h fun v w' hv hS => hn v w' (shape_ok hv) hS
      simp only [execOp, resolve, invoke, Bind.bind, Sem.bind, Pure.pure]
      have e0 : (#[a.eval r] ++ args.map a.eval)[0]? = some (a.eval r) := by
        rw [Array.getElem?_append_left (by simp)]; rfl
      have e1 : (#[a.eval r] ++ args.map a.eval).extract 1 (#[a.eval r] ++ args.map a.eval).size = args.map a.eval := by
        apply Array.ext'; simp [List.take_of_length_le]
      rw [e0, e1]
  | _ => exact h.elim

theorem wp_of_run {P : Program} {o : Oper} {a : Act} {w : World} {v : Value} {next : Act → World → Prop} {Q : Exit → Act → World → Prop}
    (hr : (execOp a.eval o).run P w = .ok (.value v) w) (hn : next (a.put o.dst v) w) : o.wp P a w next Q := by
  unfold Oper.wp; rw [hr]; exact hn

theorem opW_sound {P : Program} {o : Oper} {a : Act} {w : World} {K : Value → Hp → Prop} {next : Act → World → Prop} {Q : Exit → Act → World → Prop}
    (h : opW P o a.tmps.toList (hp w) K) (hn : ∀ v w', K v (hp w') → Same w w' → next (a.put o.dst v) w') : o.wp P a w next Q := by
  unfold opW at h
  split at h
  · rename_i v hc
    refine wp_of_run (v := v) ?_ (hn _ _ h (.refl w))
    rw [← evalL_act, exec_mv hc]; rfl
  · rename_i s hc
    obtain ⟨v, hv, hk⟩ := roW_sound hc h
    refine wp_of_run (v := v) ?_ (hn _ _ hk (.refl w))
    rw [← evalL_act]
    exact rd_sound P _ w _ (exec_cls hc _ _ hv)
  · exact efW_sound h hn
end Go.H
namespace Go.H

/-! ### Operations in a row; regions that draw their order, by a plan -/
def gd (t : Value) (want : Bool) : Bool := (match t with | .bool b => some b | _ => none) == some want
def wantL (all : Array Oper) (o : Oper) (l : List Value) : Bool :=
  match o.guard with
  | none => true
  | some (j, want) => match (all[j]?).bind (·.dst) with
    | some d => gd (l.getD d undef) want
    | none => false
/-- By a bool that stands in a slot; each way knows which it is. -/
def gB (l : List Value) (d : Nat) (want : Bool) (A B : List Value → Prop) : Prop :=
  match l.getD d undef with
  | .bool b => match b with
    | true => (match want with | true => A (l.set d (.bool true)) | false => B (l.set d (.bool true)))
    | false => (match want with | true => B (l.set d (.bool false)) | false => A (l.set d (.bool false)))
  | _ => B l
def guardW (all : Array Oper) (o : Oper) (l : List Value) (A B : List Value → Prop) : Prop :=
  match o.guard with
  | none => A l
  | some (j, want) => match (all[j]?).bind (·.dst) with
    | some d => gB l d want A B
    | none => B l
theorem set_same {l : List Value} {d : Nat} {b : Bool} (h : l.getD d undef = .bool b) : l.set d (.bool b) = l := by
  rcases Nat.lt_or_ge d l.length with h' | h'
  · have : l[d] = .bool b := by simpa [h'] using h
    rw [← this]
    exact List.set_getElem_self h'
  · exact List.set_eq_of_length_le h'
theorem guardW_true {all : Array Oper} {o : Oper} {l : List Value} {A B : List Value → Prop} (h : wantL all o l = true) : guardW all o l A B ↔ A l := by
  unfold wantL at h
  unfold guardW
  cases hg : o.guard with
  | none => exact Iff.rfl
  | some jw =>
    obtain ⟨j, want⟩ := jw
    rw [hg] at h
    dsimp only at h ⊢
    cases hd : (all[j]?).bind (·.dst) with
    | none => rw [hd] at h; cases h
    | some d =>
      rw [hd] at h
      dsimp only at h ⊢
      unfold gd at h
      unfold gB
      cases ht : l.getD d undef with
      | bool b =>
        rw [ht] at h
        have hs := set_same ht
        cases b <;> cases want <;> first | exact absurd h (by decide) | (dsimp only; rw [hs])
      | _ => rw [ht] at h; cases h
theorem guardW_false {all : Array Oper} {o : Oper} {l : List Value} {A B : List Value → Prop} (h : wantL all o l = false) : guardW all o l A B ↔ B l := by
  unfold wantL at h
  unfold guardW
  cases hg : o.guard with
  | none => rw [hg] at h; cases h
  | some jw =>
    obtain ⟨j, want⟩ := jw
    rw [hg] at h
    dsimp only at h ⊢
    cases hd : (all[j]?).bind (·.dst) with
    | none => exact Iff.rfl
    | some d =>
      rw [hd] at h
      dsimp only at h ⊢
      unfold gd at h
      unfold gB
      cases ht : l.getD d undef with
      | bool b =>
        rw [ht] at h
        have hs := set_same ht
        cases b <;> cases want <;> first | exact absurd h (by decide) | (dsimp only; rw [hs])
      | _ => exact Iff.rfl
def seqW (P : Program) (all : Array Oper) : List Oper → List Value → Hp → (List Value → Hp → Prop) → Prop
  | [], l, h, K => K l h
  | o :: r, l, h, K => guardW all o l (fun l => opW P o l h fun v h' => seqW P all r (putL l o.dst v) h' K) (fun l => seqW P all r (putL l o.dst undef) h K)

theorem wantL_eq (all : Array Oper) (o : Oper) (a : Act) : wantL all o a.tmps.toList = Region.wanted o (yielded all a.tmps) := by
  unfold wantL Region.wanted
  cases hg : o.guard with
  | none => rfl
  | some jw =>
    obtain ⟨j, want⟩ := jw
    simp only [yielded]
    cases hd : (all[j]?).bind (·.dst) with
    | none => rfl
    | some d =>
      simp only [Option.bind_some, gd]
      rcases Nat.lt_or_ge d a.tmps.size with hlt | hge
      · have e1 : a.tmps[d]? = some a.tmps[d] := by simp [hlt]
        have e2 : a.tmps.toList.getD d undef = a.tmps[d] := by simp [hlt]
        rw [e1, e2]
        cases a.tmps[d] <;> rfl
      · have e1 : a.tmps[d]? = none := by simp [hge]
        have e2 : a.tmps.toList.getD d undef = undef := by simp [hge]
        rw [e1, e2]
        rfl

theorem wpOps_seq {P : Program} {ops : Array Oper} {Q : Exit → Act → World → Prop} {w0 : World} {K : List Value → Hp → Prop}
    (hQ : ∀ a w, a.defers = [] → Same w0 w → K a.tmps.toList (hp w) → Q .normal a w) :
    ∀ (r : List Oper) (k : Nat), (∀ j, r[j]? = ops[k + j]?) → ∀ (a : Act) (w : World), a.defers = [] → Same w0 w →
      seqW P ops r a.tmps.toList (hp w) K → wpOps P ops Q (List.range' k r.length) a w := by
  intro r
  induction r with
  | nil => intro k hk a w hd hS h; simpa [wpOps] using hQ a w hd hS h
  | cons o r ih =>
    intro k hk a w hd hS h
    have ho : ops[k]? = some o := by have := hk 0; simpa using this.symm
    have hk' : ∀ j, r[j]? = ops[k + 1 + j]? := by
      intro j; have := hk (j + 1); simp only [List.getElem?_cons_succ] at this; rw [this]; congr 1; omega
    simp only [List.length_cons, List.range'_succ, wpOps, ho]
    simp only [seqW] at h
    have hwl := wantL_eq ops o a
    cases hw : Region.wanted o (yielded ops a.tmps) with
    | true =>
      replace h := (guardW_true (hwl.trans hw)).1 h
      simp only [if_true]
      refine .inl (opW_sound h fun v w' hK hS' => ?_)
      refine ih (k + 1) hk' _ w' (by rw [put_defers]; exact hd) (hS.trans hS') ?_
      rw [putL_put]; exact hK
    | false =>
      replace h := (guardW_false (hwl.trans hw)).1 h
      simp only [Bool.false_eq_true, if_false]
      refine ih (k + 1) hk' _ w (by rw [put_defers]; exact hd) hS ?_
      rw [putL_put]; exact h

/-- The order in which a region that draws is walked: reads first, as far as they can be; where several others may come, each. -/
inductive Plan where
  | nil
  | ro (i : Nat) (p : Plan)
  | ef (i : Nat) (p q : Plan)
  deriving Inhabited

def edgeTo (ops : Array Oper) (j i : Nat) : Bool :=
  match ops[j]? with
  | some o => o.after.toList.any fun e => Region.binds .any e && e.on == i
  | none => false
def reach2 (ops : Array Oper) (j i : Nat) : Bool :=
  match ops[j]? with
  | some o => o.after.toList.any fun e => Region.binds .any e && (e.on == i || edgeTo ops e.on i)
  | none => false
def efOp (P : Program) (o : Oper) : Bool :=
  match cls P [] o with
  | .ef => true
  | _ => false
abbrev Held := List (Nat × (Hp → Prop))
def heldOk : Held → Hp → Prop
  | [], _ => True
  | [x], h => x.2 h
  | x :: r, h => x.2 h ∧ heldOk r h
def stepEf (held : Held) (h : Hp) (A : Prop) : Prop :=
  match held with
  | [] => A
  | _ => heldOk held h ∧ A
def prune (ops : Array Oper) (i : Nat) : Held → Held
  | [] => []
  | x :: r => match reach2 ops i x.1 with
    | true => prune ops i r
    | false => x :: prune ops i r

/-! ### What a computation reads, whatever the heap -/
def NM {α : Type} (P : Program) (s : Sem α) : Prop := ∀ (h h' : Hp), rd P s h = rd P s h'
theorem NM.pure {α : Type} {P : Program} (a : α) : NM P (Sem.pure a) := fun _ _ => rfl
theorem NM.bind {α β : Type} {P : Program} {s : Sem α} {f : α → Sem β} (h : NM P s) (hf : ∀ a, NM P (f a)) : NM P (s.bind f) := by
  intro g g'
  rw [rd_bind, rd_bind, h g g']
  cases rd P s g' with
  | none => rfl
  | some a => exact hf a g g'
theorem NM.halt {α : Type} {P : Program} (x : Halt) : NM P (Sem.halt x : Sem α) := fun _ _ => rfl
theorem NM.prog {α : Type} {P : Program} {k : Program → Sem α} (h : NM P (k P)) : NM P (program.bind k) := fun g g' => h g g'
theorem NM.typeInfo {P : Program} (t : TypeId) : NM P (typeInfo t) := by
  refine NM.prog ?_
  split <;> first | exact .pure _ | exact .halt _
theorem NM.underlying {P : Program} (t : TypeId) : NM P (underlying t) := by
  refine NM.prog ?_
  split <;> first | exact .pure _ | exact .halt _
theorem NM.sizeOf {P : Program} (t : TypeId) : NM P (Go.sizeOf t) := .bind (.typeInfo t) fun _ => .pure _
theorem NM.sureAddr {P : Program} (v : Value) : NM P (Instr.sureAddr v) := by unfold Instr.sureAddr; split <;> first | exact .pure _ | exact .halt _
theorem NM.asIntOf {P : Program} (v : Value) : NM P (asIntOf v) := by unfold Go.asIntOf; split <;> first | exact .pure _ | exact .halt _
theorem NM.asBool {P : Program} (v : Value) : NM P (asBool v) := by unfold Go.asBool; split <;> first | exact .pure _ | exact .halt _
theorem NM.boundsPanic {α : Type} {P : Program} (k : IntKind) (x y : Int) (c : BoundsCode) : NM P (boundsPanic k x y c : Sem α) := by
  intro g g'
  unfold Go.boundsPanic runtimePanic
  cases h1 : (k != .u64 && 0 ≤ x && x ≤ 31) <;> simp only [h1] <;> rfl
theorem rd_sizeOf {P : Program} {t : TypeId} {h : Hp} {n : Nat} (hs : rd P (Go.sizeOf t) h = some n) : (P.info? t).map (·.size) = some n := by
  have : rd P (Go.sizeOf t) h = (P.info? t).map (·.size) := by
    simp only [Go.sizeOf, Go.typeInfo, Bind.bind, Sem.bind, Go.program, rd]
    cases P.info? t <;> rfl
  rw [← this]; exact hs
/-- Has the field a size? -/
def sized (P : Program) (s : TypeId) (f : Nat) : Bool :=
  match P.underlying s with
  | some (.struct fields) => match fields[f]? with
    | some fd => match P.info? fd.type with
      | some i => !(i.size == 0)
      | none => true
    | none => true
  | _ => true
theorem rd_underlying {P : Program} (t : TypeId) (h : Hp) : rd P (underlying t) h = P.underlying t := by
  simp only [Go.underlying, Bind.bind, Sem.bind, Go.program, rd]
  cases P.underlying t <;> rfl
theorem NM.bindU {α : Type} {P : Program} {t : TypeId} {f : TypeDesc → Sem α} (h : ∀ d, P.underlying t = some d → NM P (f d)) : NM P ((Go.underlying t).bind f) := by
  intro g g'
  rw [rd_bind, rd_bind, rd_underlying, rd_underlying]
  cases hu : P.underlying t with
  | none => rfl
  | some d => exact h d hu g g'
theorem NM.bindS {α : Type} {P : Program} {t : TypeId} {f : Nat → Sem α} (h : ∀ n, (P.info? t).map (·.size) = some n → NM P (f n)) : NM P ((Go.sizeOf t).bind f) := by
  intro g g'
  rw [rd_bind, rd_bind]
  have e : rd P (Go.sizeOf t) g = rd P (Go.sizeOf t) g' := NM.sizeOf t g g'
  rw [← e]
  cases hu : rd P (Go.sizeOf t) g with
  | none => rfl
  | some d => exact h d (rd_sizeOf hu) g g'
theorem NM.fieldAt {P : Program} (s : TypeId) (x : Value) (f : Nat) (hz : sized P s f = true) : NM P (Instr.fieldAt s x f) := by
  unfold Instr.fieldAt
  refine .bindU fun d hd => ?_
  unfold sized at hz
  rw [hd] at hz
  split
  · rename_i fields
    dsimp only at hz
    split
    · rename_i fd hf
      rw [hf] at hz
      dsimp only at hz
      refine .bind (.sureAddr x) fun a => .bind ?_ fun _ => .pure _
      refine .bindS fun n hn => ?_
      cases hi : P.info? fd.type with
      | none => rw [hi] at hn; cases hn
      | some i =>
        rw [hi] at hz hn
        dsimp only at hz
        simp only [Option.map_some, Option.some.injEq] at hn
        have hne : ¬ n = 0 := by rw [← hn]; simpa using hz
        rw [if_neg hne]
        exact .pure _
    · exact .halt _
  · exact .halt _
theorem NM.sNil {P : Program} (x : Value) : NM P (sNil x) := by
  unfold Go.H.sNil
  split
  · exact fun _ _ => rfl
  · exact fun _ _ => rfl
  · exact fun _ _ => rfl
  · exact .halt _
  · exact .pure _
theorem NM.sPick {P : Program} (c a b : Value) : NM P (sPick c a b) := .bind (.asBool c) fun _ => .pure _
theorem NM.makeInterface {P : Program} (t : TypeId) (x : Value) : NM P (Instr.makeInterface t x) := by
  unfold Instr.makeInterface
  refine .bind (.underlying t) fun d => ?_
  split <;> first | exact .pure _ | exact .halt _
theorem NM.extract {P : Program} (x : Value) (i : Nat) : NM P (Instr.extract x i) := by
  unfold Instr.extract
  split
  · split <;> first | exact .pure _ | exact .halt _
  · exact .halt _
theorem NM.bnd {α β : Type} {P : Program} {s : Sem α} {f : α → Sem β} (h : NM P s) (hf : ∀ a, NM P (f a)) : NM P (s >>= f) := NM.bind h hf
theorem NM.pur {α : Type} {P : Program} (a : α) : NM P (Pure.pure a : Sem α) := fun _ _ => rfl
theorem NM.stk {α : Type} {P : Program} (a : String) : NM P (stuck a : Sem α) := fun _ _ => rfl
theorem NM.uns {α : Type} {P : Program} (a : Unsupported) : NM P (unsupported a : Sem α) := fun _ _ => rfl
theorem NM.indexAt {P : Program} (t : TypeId) (x i : Value) : NM P (Instr.indexAt t x i) := by
  unfold Instr.indexAt
  refine .bind (.asIntOf i) fun ki => .bind (.underlying t) fun d => ?_
  dsimp only
  repeat' (first | with_reducible exact NM.pur _ | with_reducible exact NM.stk _ | with_reducible exact NM.uns _ | with_reducible exact NM.boundsPanic _ _ _ _ | with_reducible exact NM.sureAddr _ | with_reducible exact NM.underlying _ | with_reducible exact NM.sizeOf _ | with_reducible refine NM.bnd ?_ fun _ => ?_ | split)
theorem NM.sliceBound {P : Program} (x : Value) (y : Nat) (c : BoundsCode) : NM P (Instr.sliceBound x y c) := by
  unfold Instr.sliceBound
  refine .bind (.asIntOf x) fun ki => ?_
  obtain ⟨k, i⟩ := ki
  dsimp only
  split
  · exact .pure _
  · exact .boundsPanic _ _ _ _
theorem NM.sliceBounds {P : Program} (s : Bool) (n c : Nat) (a b d : Option Value) : NM P (Instr.sliceBounds s n c a b d) := by
  unfold Instr.sliceBounds
  cases a <;> cases b <;> cases d <;>
    (repeat' (first | exact .pure _ | exact .halt _ | exact .sliceBound _ _ _ | refine .bind ?_ fun _ => ?_))
theorem NM.asAddr {P : Program} (v : Value) : NM P (asAddr v) := by
  unfold Go.asAddr; split <;> first | exact .pure _ | exact .halt _ | exact fun _ _ => rfl
theorem NM.slice {P : Program} (t : TypeId) (x : Value) (a b d : Option Value) : NM P (Instr.slice t x a b d) := by
  unfold Instr.slice
  refine .bind (.underlying t) fun u => ?_
  split
  · split
    · exact .bind (.halt _) fun _ => .bind (.sliceBounds _ _ _ _ _ _) fun _ => .pure _
    · exact .bind (.sliceBounds _ _ _ _ _ _) fun _ => .pure _
  · exact .bind (.sliceBounds _ _ _ _ _ _) fun _ => .bind (.sizeOf _) fun _ => .pure _
  · refine .bind (.asAddr _) fun _ => .bind (.underlying _) fun u' => ?_
    split
    · exact .bind (.sliceBounds _ _ _ _ _ _) fun _ => .bind (.sizeOf _) fun _ => .pure _
    · exact .halt _
  · exact .halt _
theorem NM.sliceAt {P : Program} (t : TypeId) (x : Value) (a b d : Option Value) : NM P (Instr.sliceAt t x a b d) := by
  unfold Instr.sliceAt
  refine .bind (.underlying t) fun u => ?_
  split
  · exact .bind (.sureAddr _) fun _ => .bind (.sliceBounds _ _ _ _ _ _) fun _ => .bind (.sizeOf _) fun _ => .pure _
  · exact .slice _ _ _ _ _

/-- Does what it reads hang on the heap, or may it? -/
def memOp (P : Program) : Op → Bool
  | .fieldAddr s _ f => !sized P s f
  | .nilCheck _ | .pick .. | .extract .. | .makeInterface .. | .makeFunc .. | .indexAddr .. | .slice .. => false
  | _ => true
theorem memOp_NM {P : Program} {l : List Value} {o : Oper} {s : Sem Value} (hc : cls P l o = .ro s) (hm : memOp P o.op = false) : NM P s := by
  obtain ⟨dst, op, type, pos, after, guard⟩ := o
  cases op <;> simp only [memOp, Bool.not_eq_false', reduceCtorEq] at hm <;> simp only [cls, Cls.ro.injEq] at hc <;> subst hc
  case fieldAddr => exact .fieldAt _ _ _ hm
  case nilCheck => exact .sNil _
  case pick => exact .sPick _ _ _
  case extract => exact .extract _ _
  case makeInterface => exact .makeInterface _ _
  case makeFunc => exact .pure _
  case indexAddr => exact .indexAt _ _ _
  case slice => exact .sliceAt _ _ _ _ _


def regW (P : Program) (ops : Array Oper) : Plan → Held → List Value → Hp → (List Value → Hp → Prop) → Prop
  | .nil, _, l, h, K => K l h
  | .ro i p, held, l, h, K => match ops[i]? with
    | none => False
    | some o => guardW ops o l (fun l => match cls P l o with
      | .mv v => regW P ops p held (putL l o.dst v) h K
      | .ro s => roW P o l s h fun v => regW P ops p (match memOp P o.op with | true => (i, fun hh => rd P s hh = rd P s h) :: held | false => held) (putL l o.dst v) h K
      | .ef => False) (fun l => regW P ops p held (putL l o.dst undef) h K)
  | .ef i p q, held, l, h, K => match ops[i]? with
    | none => False
    | some o => match q with
      | .nil => guardW ops o l (fun l => opW P o l h fun v h' => stepEf (prune ops i held) h' (regW P ops p (prune ops i held) (putL l o.dst v) h' K)) (fun l => regW P ops p (prune ops i held) (putL l o.dst undef) h K)
      | _ => guardW ops o l (fun l => opW P o l h fun v h' => stepEf (prune ops i held) h' (regW P ops p (prune ops i held) (putL l o.dst v) h' K)) (fun l => regW P ops p (prune ops i held) (putL l o.dst undef) h K) ∧ regW P ops q held l h K

def heads : Plan → List Nat
  | .ef i _ q => i :: heads q
  | _ => []
def depth : Plan → Nat
  | .nil => 0
  | .ro _ p => depth p + 1
  | .ef _ p q => max (depth p + 1) (depth q)
/-- Does a plan serve? (top: at the begin of a step, not among its others) -/
def planOk (P : Program) (ops : Array Oper) : Bool → Plan → Array Bool → Bool
  | top, .nil, L => !top || (Region.ready .any ops L) == []
  | top, .ro i p, L => top && ((Region.ready .any ops L).contains i && (Region.free .any ops L i &&
      ((match ops[i]? with | some o => !efOp P o | none => false) && planOk P ops true p (L.setIfInBounds i true))))
  | top, .ef i p q, L => (!top || (Region.ready .any ops L) == heads (.ef i p q)) && ((match ops[i]? with | some o => efOp P o | none => false) &&
      (planOk P ops true p (L.setIfInBounds i true) && planOk P ops false q L))

end Go.H
namespace Go.H
section
variable {P : Program} {ops : Array Oper} {Q : Exit → Act → World → Prop}

def wpAnyL (P : Program) (ops : Array Oper) (Q : Exit → Act → World → Prop) (S : Array Bool → World → Prop) : Nat → Array Bool → Act → World → Prop
  | 0, L, a, w => Region.ready .any ops L = [] ∧ Q .normal a w
  | f + 1, L, a, w =>
    (Region.ready .any ops L = [] → Q .normal a w) ∧
    ∀ i ∈ Region.ready .any ops L, wpOp P ops Q i (fun a' w' => S (L.setIfInBounds i true) w' ∧ wpAnyL P ops Q S f (L.setIfInBounds i true) a' w') a w

theorem wpAny_of_L {S : Array Bool → World → Prop} : ∀ (f : Nat) (L : Array Bool) (a : Act) (w : World), wpAnyL P ops Q S f L a w → wpAny P .any ops Q f L a w
  | 0, _, _, _, h => h
  | f + 1, _, _, _, h => ⟨h.1, fun i hi => wpOp_mono (fun a' w' h' => wpAny_of_L f _ a' w' h'.2) (h.2 i hi)⟩

def Sub (L L' : Array Bool) : Prop := ∀ j, L.getD j false = true → L'.getD j false = true
theorem Sub.refl (L : Array Bool) : Sub L L := fun _ h => h
theorem Sub.set {L L' : Array Bool} (h : Sub L L') (i : Nat) : Sub L (L'.setIfInBounds i true) := fun j hj => getD_set_true (h j hj)

theorem wpAnyL_mono {S S' : Array Bool → World → Prop} : ∀ (f : Nat) (L : Array Bool), (∀ L', Sub L L' → ∀ w, S' L' w → S L' w) →
    ∀ (a : Act) (w : World), wpAnyL P ops Q S' f L a w → wpAnyL P ops Q S f L a w
  | 0, _, _, _, _, h => h
  | f + 1, L, hs, _, _, h => ⟨h.1, fun i hi => wpOp_mono (fun a' w' h' => ⟨hs _ ((Sub.refl L).set i) _ h'.1,
      wpAnyL_mono f _ (fun L' hL' => hs L' (fun j hj => hL' j (getD_set_true hj))) a' w' h'.2⟩) (h.2 i hi)⟩

/-- Each operation that has come up had all that it waits for. -/
def Closed (ops : Array Oper) (L : Array Bool) : Prop := ∀ j i, L.getD j false = true → edgeTo ops j i = true → L.getD i false = true
theorem getD_set_self {L : Array Bool} {i : Nat} (h : (L.setIfInBounds i true).getD i false = true → True := fun _ => trivial) : i < L.size → (L.setIfInBounds i true).getD i false = true := by
  intro hi; simp [hi]
theorem edgeTo_ready {L : Array Bool} {j i : Nat} (hj : j ∈ Region.ready .any ops L) (he : edgeTo ops j i = true) : L.getD i false = true := by
  obtain ⟨_, o, ho, hall⟩ := mem_ready.1 hj
  simp only [edgeTo, ho, List.any_eq_true, Bool.and_eq_true, beq_iff_eq] at he
  obtain ⟨e, hm, hb, rfl⟩ := he
  exact hall e (by simpa using hm) hb
theorem Closed.set {L : Array Bool} (h : Closed ops L) {j : Nat} (hj : j ∈ Region.ready .any ops L) : Closed ops (L.setIfInBounds j true) := by
  intro k i hk he
  by_cases hkj : k = j
  · subst hkj; exact getD_set_true (edgeTo_ready hj he)
  · rw [getD_set_ne false (fun e => hkj e.symm)] at hk
    exact getD_set_true (h k i hk he)
theorem Closed.reach {L : Array Bool} (h : Closed ops L) {j i : Nat} (hj : L.getD j false = true) (hr : reach2 ops j i = true) : L.getD i false = true := by
  unfold reach2 at hr
  cases ho : ops[j]? with
  | none => simp [ho] at hr
  | some o =>
    simp only [ho, List.any_eq_true, Bool.and_eq_true, Bool.or_eq_true, beq_iff_eq] at hr
    obtain ⟨e, hm, hb, hh⟩ := hr
    have hon : L.getD e.on false = true := h j e.on hj (by simp only [edgeTo, ho, List.any_eq_true, Bool.and_eq_true, beq_iff_eq]; exact ⟨e, hm, hb, rfl⟩)
    rcases hh with rfl | hh
    · exact hon
    · exact h _ _ hon hh

def effAt (P : Program) (ops : Array Oper) (j : Nat) : Bool :=
  match ops[j]? with
  | some o => efOp P o
  | none => false
/-- Has nothing come up that does more than read and that waits for i? -/
def NoDep (P : Program) (ops : Array Oper) (i : Nat) (L : Array Bool) : Prop := ∀ j, L.getD j false = true → effAt P ops j = true → reach2 ops j i = false
theorem NoDep.of_closed {L : Array Bool} {i : Nat} (h : Closed ops L) (hi : L.getD i false = false) : NoDep P ops i L := by
  intro j hj _
  cases hr : reach2 ops j i with
  | false => rfl
  | true => have := h.reach hj hr; rw [hi] at this; cases this
theorem NoDep.set {L : Array Bool} {i k : Nat} (hk : effAt P ops k = false) : NoDep P ops i (L.setIfInBounds k true) ↔ NoDep P ops i L := by
  constructor
  · intro h j hj he; exact h j (getD_set_true hj) he
  · intro h j hj he
    by_cases hjk : k = j
    · subst hjk; rw [hk] at he; cases he
    · rw [getD_set_ne false hjk] at hj; exact h j hj he

theorem getD_false_of_true {L : Array Bool} {i : Nat} (h : L.getD i true = false) : L.getD i false = false := getD_both' h
where
  getD_both' {L : Array Bool} {i : Nat} (h : L.getD i true = false) : L.getD i false = false := by
    rcases Nat.lt_or_ge i L.size with h' | h'
    · simp [h'] at h ⊢; exact h
    · simp [Array.getElem?_eq_none h'] at h

theorem firstL {i : Nat} {oi : Oper} {v : Value} {D : World → Prop} {S : Array Bool → World → Prop} (hi : ops[i]? = some oi) (hne : effAt P ops i = false)
    (hsel : ∀ (j : Nat) (o : Oper) cs b, ops[j]? = some o → o.op ≠ .select cs b)
    (hQ : ∀ c a w, Q (.panic c) (a.put oi.dst v) w → Q (.panic c) a w)
    (hSi : ∀ L w, S (L.setIfInBounds i true) w → S L w) :
    ∀ (fuel : Nat) (L : Array Bool) (a : Act) (w : World),
      (∀ j oj, ops[j]? = some oj → j ≠ i → L.getD j true = false → (∀ e ∈ oj.after, Region.binds .any e = true → e.on ≠ i) → oi.apart ops oj = true) →
      i ∈ Region.ready .any ops L → Closed ops L → YieldsIf P ops D oi v a → D w → S (L.setIfInBounds i true) w →
      wpAnyL P ops Q (fun L w => S L w ∧ (NoDep P ops i L → D w)) fuel (L.setIfInBounds i true) (a.put oi.dst v) w → wpAnyL P ops Q S (fuel + 1) L a w := by
  intro fuel
  induction fuel with
  | zero =>
    intro L a w _ hr _ hy hD hS0 H
    refine ⟨fun h => (by rw [h] at hr; cases hr), fun j hj => ?_⟩
    by_cases hji : j = i
    · subst hji; exact hy.wpOp hi hD ⟨hS0, H⟩
    · have := ready_mono hj hji
      rw [H.1] at this
      cases this
  | succ fuel ih =>
    intro L a w hfree hr hcl hy hD hS0 H
    refine ⟨fun h => (by rw [h] at hr; cases hr), fun j hj => ?_⟩
    by_cases hji : j = i
    · subst hji
      refine hy.wpOp hi hD ⟨hS0, ?_⟩
      exact wpAnyL_mono _ _ (fun L' _ w h => h.1) _ _ H
    · have h1 := H.2 j (ready_mono hj hji)
      obtain ⟨hjun, oj, hoj, hall⟩ := mem_ready.1 hj
      have hnot : ∀ e ∈ oj.after, Region.binds .any e = true → e.on ≠ i := fun e he hb heq => by
        have h1 := hall e he hb
        have h0 := (mem_ready.1 hr).1
        rw [heq] at h1
        rcases Nat.lt_or_ge i L.size with h' | h'
        · simp [h'] at h0 h1; rw [h0] at h1; cases h1
        · simp [Array.getElem?_eq_none h'] at h1
      have h2 := wpOp_putIf hoj (hfree j oj hoj hji hjun hnot) (fun cs b => hsel i oi cs b hi) (fun cs b => hsel j oj cs b hoj) hQ hy h1
      have hfree' : ∀ k ok, ops[k]? = some ok → k ≠ i → (L.setIfInBounds j true).getD k true = false →
          (∀ e ∈ ok.after, Region.binds .any e = true → e.on ≠ i) → oi.apart ops ok = true := fun k ok hk hki hun hno => by
        refine hfree k ok hk hki ?_ hno
        by_cases hjk : j = k
        · subst hjk; exact hjun
        · rw [getD_set_ne true hjk] at hun; exact hun
      have hcl' := hcl.set hj
      have hiL : (L.setIfInBounds j true).getD i false = false := by
        rw [getD_set_ne false hji]; exact getD_false_of_true (mem_ready.1 hr).1
      refine wpOp_mono (fun a' w' h3 => ?_) h2
      obtain ⟨hy', ⟨hS', hD'⟩, hrest⟩ := h3
      rw [Array.setIfInBounds_comm _ _ (fun e => hji e.symm)] at hS' hD' hrest
      exact ⟨hSi _ _ hS', ih (L.setIfInBounds j true) a' w' hfree' (ready_mono hr (Ne.symm hji)) hcl' hy' (hD' ((NoDep.set hne).2 (NoDep.of_closed hcl' hiL))) hS' hrest⟩

end
end Go.H
namespace Go.H
section
variable {P : Program} {ops : Array Oper}

def SH (P : Program) (ops : Array Oper) (held : Held) (L : Array Bool) (w : World) : Prop := ∀ x ∈ held, NoDep P ops x.1 L → x.2 (hp w)

theorem heldOk_all : ∀ {held : Held} {h : Hp}, heldOk held h → ∀ x ∈ held, x.2 h
  | [], _, _, _, hx => by cases hx
  | [y], _, hh, x, hx => by simp only [List.mem_singleton] at hx; subst hx; exact hh
  | y :: z :: r, h, hh, x, hx => by
    rcases List.mem_cons.1 hx with rfl | hx
    · exact hh.1
    · exact heldOk_all hh.2 x hx
theorem stepEf_iff {held : Held} {h : Hp} {A : Prop} (hh : stepEf held h A) : (∀ x ∈ held, x.2 h) ∧ A := by
  cases held with
  | nil => exact ⟨fun x hx => (by cases hx), hh⟩
  | cons y r => exact ⟨heldOk_all hh.1, hh.2⟩
theorem mem_prune {i : Nat} : ∀ {held : Held} {x : Nat × (Hp → Prop)}, x ∈ prune ops i held ↔ x ∈ held ∧ reach2 ops i x.1 = false
  | [], x => by simp [prune]
  | y :: r, x => by
    simp only [prune]
    split
    · rename_i hr
      rw [mem_prune]
      constructor
      · exact fun ⟨a, b⟩ => ⟨List.mem_cons_of_mem _ a, b⟩
      · rintro ⟨a, b⟩
        rcases List.mem_cons.1 a with rfl | a
        · rw [hr] at b; cases b
        · exact ⟨a, b⟩
    · rename_i hr
      constructor
      · intro h
        rcases List.mem_cons.1 h with rfl | h
        · exact ⟨List.mem_cons_self .., hr⟩
        · exact ⟨List.mem_cons_of_mem _ (mem_prune.1 h).1, (mem_prune.1 h).2⟩
      · rintro ⟨a, b⟩
        rcases List.mem_cons.1 a with rfl | a
        · exact List.mem_cons_self ..
        · exact List.mem_cons_of_mem _ (mem_prune.2 ⟨a, b⟩)

theorem opW_run {o : Oper} {a : Act} {w : World} {i : Nat} {K : Value → Hp → Prop} {A B : List Value → Prop} {Q : Exit → Act → World → Prop} {next : Act → World → Prop} (hi : ops[i]? = some o)
    (h : guardW ops o a.tmps.toList A B) (hA : A a.tmps.toList → opW P o a.tmps.toList (hp w) K)
    (hn : ∀ v w', K v (hp w') → Same w w' → next (a.put o.dst v) w') (hB : B a.tmps.toList → next (a.put o.dst undef) w) : wpOp P ops Q i next a w := by
  unfold wpOp
  simp only [hi]
  have hwl := wantL_eq ops o a
  cases hw : Region.wanted o (yielded ops a.tmps) with
  | true => simp only [if_true]; exact .inl (opW_sound (hA ((guardW_true (hwl.trans hw)).1 h)) hn)
  | false => simp only [Bool.false_eq_true, if_false]; exact hB ((guardW_false (hwl.trans hw)).1 h)

theorem alts {i : Nat} : ∀ {q : Plan} {L : Array Bool} {held : Held} {l : List Value} {h : Hp} {K : List Value → Hp → Prop},
    planOk P ops false q L = true → i ∈ heads q → regW P ops q held l h K →
    ∃ o p, ops[i]? = some o ∧ efOp P o = true ∧ planOk P ops true p (L.setIfInBounds i true) = true ∧ depth p + 1 ≤ depth q ∧
      guardW ops o l (fun l => opW P o l h fun v h' => stepEf (prune ops i held) h' (regW P ops p (prune ops i held) (putL l o.dst v) h' K)) (fun l => regW P ops p (prune ops i held) (putL l o.dst undef) h K) := by
  intro q
  induction q with
  | nil => intro L held l h K _ hm; simp [heads] at hm
  | ro j p ih => intro L held l h K ho; simp [planOk] at ho
  | ef j p q ihp ihq =>
    intro L held l h K ho hm hr
    simp only [planOk, Bool.not_false, Bool.true_or, Bool.true_and, Bool.and_eq_true] at ho
    obtain ⟨h1, h2, h3⟩ := ho
    cases hoj : ops[j]? with
    | none => simp [hoj] at h1
    | some o =>
      simp only [hoj] at h1
      simp only [regW, hoj] at hr
      simp only [heads, List.mem_cons] at hm
      rcases hm with rfl | hm
      · refine ⟨o, p, hoj, h1, h2, by simp only [depth]; omega, ?_⟩
        cases q with
        | nil => exact hr
        | ro _ _ => exact hr.1
        | ef _ _ _ => exact hr.1
      · have hr' : regW P ops q held l h K := by
          cases q with
          | nil => simp [heads] at hm
          | ro _ _ => exact hr.2
          | ef _ _ _ => exact hr.2
        obtain ⟨o', p'', a, b, c, d, e⟩ := ihq h3 hm hr'
        exact ⟨o', p'', a, b, c, by simp only [depth]; omega, e⟩

theorem planOk_alt {i : Nat} {p q : Plan} {L : Array Bool} (h : planOk P ops true (.ef i p q) L = true) : planOk P ops false (.ef i p q) L = true ∧ Region.ready .any ops L = heads (.ef i p q) := by
  simp only [planOk, Bool.not_true, Bool.false_or, Bool.and_eq_true, beq_iff_eq] at h
  obtain ⟨h1, h2⟩ := h
  refine ⟨?_, h1⟩
  simp only [planOk, Bool.not_false, Bool.true_or, Bool.true_and, Bool.and_eq_true]
  exact h2

theorem regW_sound {Q : Exit → Act → World → Prop} {w0 : World} {K : List Value → Hp → Prop} (hs : Region.noSelect ops = true)
    (hQp : ∀ c a w, ¬ Q (.panic c) a w)
    (hQ : ∀ a w, a.defers = [] → Same w0 w → K a.tmps.toList (hp w) → Q .normal a w) :
    ∀ (n : Nat) (p : Plan) (held : Held) (L : Array Bool) (f : Nat) (a : Act) (w : World), depth p ≤ n → depth p ≤ f → planOk P ops true p L = true → Closed ops L →
      (∀ x ∈ held, effAt P ops x.1 = false) → a.defers = [] → Same w0 w → SH P ops held L w →
      regW P ops p held a.tmps.toList (hp w) K → wpAnyL P ops Q (SH P ops held) f L a w := by
  intro n
  induction n with
  | zero =>
    intro p held L f a w hn hf hp' hcl hh hd hS hSH H
    cases p with
    | nil =>
      simp only [planOk, Bool.not_true, Bool.false_or, beq_iff_eq] at hp'
      have hq := hQ a w hd hS H
      cases f with
      | zero => exact ⟨hp', hq⟩
      | succ f => exact ⟨fun _ => hq, fun i hi => by rw [hp'] at hi; cases hi⟩
    | ro i p => simp [depth] at hn
    | ef i p q => simp only [depth] at hn; omega
  | succ n ih =>
    intro p held L f a w hn hf hp' hcl hh hd hS hSH H
    cases p with
    | nil =>
      simp only [planOk, Bool.not_true, Bool.false_or, beq_iff_eq] at hp'
      have hq := hQ a w hd hS H
      cases f with
      | zero => exact ⟨hp', hq⟩
      | succ f => exact ⟨fun _ => hq, fun i hi => by rw [hp'] at hi; cases hi⟩
    | ro i p =>
      simp only [depth] at hn hf
      obtain ⟨f, rfl⟩ : ∃ m, f = m + 1 := ⟨f - 1, by omega⟩
      simp only [planOk, Bool.true_and, Bool.and_eq_true, List.contains_eq_mem, decide_eq_true_eq] at hp'
      obtain ⟨hr, hfree, hne, hpp⟩ := hp'
      cases ho : ops[i]? with
      | none => simp [ho] at hne
      | some o =>
        simp only [ho] at hne
        simp only [regW, ho] at H
        have hne' : effAt P ops i = false := by simp only [effAt, ho]; simpa using hne
        have hSi : ∀ L w, SH P ops held (L.setIfInBounds i true) w → SH P ops held L w := fun L w h x hx hnd => h x hx ((NoDep.set hne').2 hnd)
        have hS0 : SH P ops held (L.setIfInBounds i true) w := fun x hx hnd => hSH x hx ((NoDep.set hne').1 hnd)
        have hfr := Region.free_spec ho hfree
        have hQ0 : ∀ c a w, Q (.panic c) (a.put o.dst undef) w → Q (.panic c) a w := fun c a w h => (hQp _ _ _ h).elim
        cases hw : wantL ops o a.tmps.toList with
        | false =>
          have hy : YieldsIf P ops (fun _ => True) o undef a := .inr ⟨by rw [← wantL_eq]; exact hw, rfl⟩
          replace H := (guardW_false hw).1 H
          refine firstL (D := fun _ => True) (v := undef) ho hne' (Region.noSelect_spec hs) (fun c a w h => (hQp _ _ _ h).elim) hSi f L a w hfr hr hcl hy trivial hS0 ?_
          refine wpAnyL_mono _ _ (fun L' _ w h => ⟨h, fun _ => trivial⟩) _ _ (ih p held _ f _ w (by omega) (by omega) hpp (hcl.set hr) hh (by rw [put_defers]; exact hd) hS hS0 ?_)
          rw [putL_put]; exact H
        | true =>
          have hwant : Region.wanted o (yielded ops a.tmps) = true := by rw [← wantL_eq]; exact hw
          replace H := (guardW_true hw).1 H
          cases hc : cls P a.tmps.toList o with
          | ef => simp only [hc] at H
          | mv v =>
            simp only [hc] at H
            have hy : YieldsIf P ops (fun _ => True) o v a := .inl ⟨hwant, fun w' _ => by rw [← evalL_act, exec_mv hc]; rfl⟩
            refine firstL (D := fun _ => True) (v := v) ho hne' (Region.noSelect_spec hs) (fun c a w h => (hQp _ _ _ h).elim) hSi f L a w hfr hr hcl hy trivial hS0 ?_
            refine wpAnyL_mono _ _ (fun L' _ w h => ⟨h, fun _ => trivial⟩) _ _ (ih p held _ f _ w (by omega) (by omega) hpp (hcl.set hr) hh (by rw [put_defers]; exact hd) hS hS0 ?_)
            rw [putL_put]; exact H
          | ro s =>
            simp only [hc] at H
            obtain ⟨v, hv, H⟩ := roW_sound hc H
            cases hm : memOp P o.op with
            | false =>
              simp only [hm] at H
              have hnm := memOp_NM hc hm
              have hy : YieldsIf P ops (fun _ => True) o v a := .inl ⟨hwant, fun w' _ => by
                rw [← evalL_act]
                exact rd_sound P _ w' _ (exec_cls hc _ _ ((hnm _ _).trans hv))⟩
              refine firstL (D := fun _ => True) (v := v) ho hne' (Region.noSelect_spec hs) (fun c a w h => (hQp _ _ _ h).elim) hSi f L a w hfr hr hcl hy trivial hS0 ?_
              refine wpAnyL_mono _ _ (fun L' _ w h => ⟨h, fun _ => trivial⟩) _ _ (ih p held _ f _ w (by omega) (by omega) hpp (hcl.set hr) hh (by rw [put_defers]; exact hd) hS hS0 ?_)
              rw [putL_put]; exact H
            | true =>
              simp only [hm] at H
              have hy : YieldsIf P ops (fun w' => rd P s (hp w') = some v) o v a := .inl ⟨hwant, fun w' hD => by
                rw [← evalL_act]
                exact rd_sound P _ w' _ (exec_cls hc _ _ hD)⟩
              refine firstL (D := fun w' => rd P s (hp w') = some v) (v := v) ho hne' (Region.noSelect_spec hs) (fun c a w h => (hQp _ _ _ h).elim) hSi f L a w hfr hr hcl hy hv hS0 ?_
              refine wpAnyL_mono (S' := SH P ops ((i, fun hh => rd P s hh = rd P s (hp w)) :: held)) _ _ (fun L' _ w' h => ⟨fun x hx => h x (List.mem_cons_of_mem _ hx), fun hnd => (h _ (List.mem_cons_self ..) hnd).trans hv⟩) _ _
                (ih p _ _ f _ w (by omega) (by omega) hpp (hcl.set hr) ?_ (by rw [put_defers]; exact hd) hS ?_ ?_)
              · intro x hx
                rcases List.mem_cons.1 hx with rfl | hx
                · exact hne'
                · exact hh x hx
              · intro x hx hnd
                rcases List.mem_cons.1 hx with rfl | hx
                · rfl
                · exact hS0 x hx hnd
              · rw [putL_put]; exact H
    | ef i0 p0 q0 =>
      obtain ⟨halt, hready⟩ := planOk_alt hp'
      have hdep : 1 ≤ depth (.ef i0 p0 q0) := by simp only [depth]; omega
      obtain ⟨f, rfl⟩ : ∃ m, f = m + 1 := ⟨f - 1, by omega⟩
      refine ⟨fun h0 => ?_, fun i hi => ?_⟩
      · rw [hready] at h0; simp [heads] at h0
      · obtain ⟨o, p, ho, he, hpp, hdp, H'⟩ := alts halt (hready ▸ hi) H
        have heff : effAt P ops i = true := by simp only [effAt, ho]; exact he
        have hiL : i < L.size := by
          have h0 := (mem_ready.1 hi).1
          rcases Nat.lt_or_ge i L.size with h' | h'
          · exact h'
          · simp [Array.getElem?_eq_none h'] at h0
        have hset : (L.setIfInBounds i true).getD i false = true := by simp [hiL]
        refine opW_run ho H' (fun h => h) (fun v w' hK hS' => ?_) (fun hK => ?_)
        case refine_2 =>
          have hSHb : ∀ x ∈ held, NoDep P ops x.1 (L.setIfInBounds i true) → x.2 (hp w) := fun x hx hnd => hSH x hx fun j hj he => hnd j (getD_set_true hj) he
          refine ⟨hSHb, ?_⟩
          refine wpAnyL_mono (S' := SH P ops (prune ops i held)) _ _ (fun L' hL' w h x hx hnd => h x (mem_prune.2 ⟨hx, hnd i (hL' i hset) heff⟩) hnd) _ _
            (ih p _ _ f _ w (by omega) (by omega) hpp (hcl.set hi) (fun x hx => hh x (mem_prune.1 hx).1) (by rw [put_defers]; exact hd) hS (fun x hx hnd => hSHb x (mem_prune.1 hx).1 hnd) ?_)
          rw [putL_put]; exact hK
        obtain ⟨hheld, hK⟩ := stepEf_iff hK
        have hSH' : SH P ops held (L.setIfInBounds i true) w' := fun x hx hnd => hheld x (mem_prune.2 ⟨hx, hnd i hset heff⟩)
        refine ⟨hSH', ?_⟩
        refine wpAnyL_mono (S' := SH P ops (prune ops i held)) _ _ (fun L' hL' w h x hx hnd => h x (mem_prune.2 ⟨hx, hnd i (hL' i hset) heff⟩) hnd) _ _
          (ih p _ _ f _ w' (by omega) (by omega) hpp (hcl.set hi) (fun x hx => hh x (mem_prune.1 hx).1) (by rw [put_defers]; exact hd) (hS.trans hS') (fun x hx _ => hheld x hx) ?_)
        rw [putL_put]; exact hK

end
end Go.H
namespace Go.H

/-! ### Code -/
abbrev Post := Exit → List Value → Hp → Prop
abbrev Inv := Nat → List Nat → List Value → Hp → Prop
def thenQ (K : List Value → Hp → Prop) (Q : Post) : Post
  | .normal => K
  | e => Q e
def blockQ (id : Nat) (Q : Post) : Post
  | .exit id', l, h => match Nat.beq id' id with
    | true => Q .normal l h
    | false => Q (.exit id') l h
  | e, l, h => Q e l h
def regionW (P : Program) (pl : Nat → Plan) (id : Nat) (ops : Array Oper) (draw : Bool) (Q : Post) (l : List Value) (h : Hp) : Prop :=
  match draw with
  | false => seqW P ops ops.toList l h (Q .normal)
  | true => regW P ops (pl id) [] l h (Q .normal)
def oIf (l : List Value) (c : Operand) (A B : List Value → Prop) : Prop :=
  match c with
  | .tmp d => match l.getD d undef with
    | .bool b => match b with
      | true => A (l.set d (.bool true))
      | false => B (l.set d (.bool false))
    | _ => False
  | .const (.bool b) => match b with
    | true => A l
    | false => B l
  | _ => False

/-- A frame, by a list of values of its slots' types. -/
def chkV (z v : Value) (A : Prop) : Prop :=
  match z with
  | .int k _ => asIn k v fun _ => A
  | .bool _ => asBo v fun _ => A
  | .string _ => asStr v fun _ => A
  | .slice .. => asSl v fun _ _ _ => A
  | .pointer none => asPt v fun _ => A
  | .pointer (some _) => asAd v fun _ => A
  | _ => A
def chk : List Value → List Value → Prop → Prop
  | [], l, A => nilL l A
  | z :: zs, l, A => unc l fun v r => chkV z v (chk zs r A)
def allV (z : Value) (F : Value → Prop) : Prop :=
  match z with
  | .int k _ => ∀ n, F (.int k n)
  | .bool _ => ∀ b, F (.bool b)
  | .string _ => ∀ b, F (.string b)
  | .slice .. => ∀ a n c, F (.slice a n c)
  | .pointer none => ∀ a, F (.pointer a)
  | .pointer (some _) => ∀ ad, F (.pointer (some ad))
  | _ => ∀ v, F v
/-- For all frames of these types. -/
def allT : List Value → (List Value → Prop) → Prop
  | [], F => F []
  | z :: zs, F => allV z fun v => allT zs fun l => F (v :: l)
theorem chkV_out {z v : Value} {A : Prop} (h : chkV z v A) : A := by
  unfold chkV at h
  split at h
  · unfold asIn at h; split at h
    · split at h <;> first | exact h | exact h.elim
    · exact h.elim
  · unfold asBo at h; split at h <;> first | exact h | exact h.elim
  · unfold asStr at h; split at h <;> first | exact h | exact h.elim
  · unfold asSl at h; split at h <;> first | exact h | exact h.elim
  · unfold asPt at h; split at h <;> first | exact h | exact h.elim
  · unfold asAd at h; split at h <;> first | exact h | exact h.elim
  · exact h
theorem allV_spec {z v : Value} {F : Value → Prop} {A : Prop} (h : allV z F) (hc : chkV z v A) : F v := by
  cases z with
  | int k n =>
    simp only [chkV, asIn] at hc
    split at hc
    · split at hc
      · rename_i hk; rw [kEq_eq hk]; exact h _
      · exact hc.elim
    · exact hc.elim
  | bool b => simp only [chkV, asBo] at hc; split at hc <;> first | exact h _ | exact hc.elim
  | string b => simp only [chkV, asStr] at hc; split at hc <;> first | exact h _ | exact hc.elim
  | slice a n c => simp only [chkV, asSl] at hc; split at hc <;> first | exact h _ _ _ | exact hc.elim
  | pointer a =>
    cases a with
    | none => simp only [chkV, asPt] at hc; split at hc <;> first | exact h _ | exact hc.elim
    | some ad => simp only [chkV, asAd] at hc; split at hc <;> first | exact h _ | exact hc.elim
  | _ => exact h v
theorem allT_spec : ∀ {zs : List Value} {F : List Value → Prop} {l : List Value} {A : Prop}, allT zs F → chk zs l A → F l ∧ A
  | [], F, l, A, h, hc => by
    cases l with
    | nil => exact ⟨h, hc⟩
    | cons v r => exact hc.elim
  | z :: zs, F, l, A, h, hc => by
    cases l with
    | nil => exact hc.elim
    | cons v r =>
      have h1 : allT zs fun l => F (v :: l) := allV_spec (F := fun v => allT zs fun l => F (v :: l)) h hc
      exact allT_spec (F := fun l => F (v :: l)) h1 (chkV_out (A := chk zs r A) hc)

def awp (P : Program) (pl : Nat → Plan) (cut : Nat → Bool) (tm : Nat → List Value) (Γ : Inv) : Nat → List Nat → Code → Post → List Value → Hp → Prop
  | _, _, .skip, Q => Q .normal
  | _, _, .label _, Q => Q .normal
  | _, _, .region id ops draw, Q => regionW P pl id ops draw Q
  | p, ns, .seq x y, Q => awp P pl cut tm Γ (2 * p) ns x (thenQ (match cut p with
      | true => fun l h => chk (tm p) l (Γ p ns l h)
      | false => awp P pl cut tm Γ (2 * p + 1) ns y Q) Q)
  | p, ns, .cond c x y, Q => fun l h => oIf l c (fun l => awp P pl cut tm Γ (2 * p) ns x Q l h) (fun l => awp P pl cut tm Γ (2 * p + 1) ns y Q l h)
  | p, ns, .block id c, Q => awp P pl cut tm Γ (2 * p) ns c (blockQ id Q)
  | p, ns, .loop _, _ => fun l h => ∃ n, chk (tm p) l (Γ p (n :: ns) l h)
  | _, _, .exit id, Q => Q (.exit id)
  | _, _, .ret, Q => Q .ret
  | _, _, _, _ => fun _ _ => False

def loopQ (tm : Nat → List Value) (Γ : Inv) (p : Nat) (n : Nat) (ns : List Nat) (Q : Post) : Post := thenQ (fun l h => ∃ m, m < n ∧ chk (tm p) l (Γ p (m :: ns) l h)) Q
def allP : List Prop → Prop
  | [] => True
  | [A] => A
  | A :: r => A ∧ allP r
theorem allP_cons {A : Prop} {r : List Prop} : allP (A :: r) ↔ A ∧ allP r := by
  cases r with
  | nil => exact ⟨fun h => ⟨h, trivial⟩, fun h => h.1⟩
  | cons B r => exact Iff.rfl
theorem allP_append {a b : List Prop} : allP (a ++ b) ↔ allP a ∧ allP b := by
  induction a with
  | nil => exact ⟨fun h => ⟨trivial, h⟩, fun h => h.2⟩
  | cons A r ih => rw [List.cons_append, allP_cons, allP_cons, ih, and_assoc]
/-- What is owed at the cuts: at the head of each loop, and where ways are let meet. -/
def obls (P : Program) (pl : Nat → Plan) (cut : Nat → Bool) (tm : Nat → List Value) (Γ : Inv) : Nat → List Nat → Code → Post → List Prop
  | p, ns, .seq x y, Q => obls P pl cut tm Γ (2 * p) ns x (thenQ (match cut p with
      | true => fun l h => chk (tm p) l (Γ p ns l h)
      | false => awp P pl cut tm Γ (2 * p + 1) ns y Q) Q) ++ (obls P pl cut tm Γ (2 * p + 1) ns y Q ++
      (match cut p with
      | true => [allT (tm p) fun l => ∀ h, Γ p ns l h → awp P pl cut tm Γ (2 * p + 1) ns y Q l h]
      | false => []))
  | p, ns, .cond _ x y, Q => obls P pl cut tm Γ (2 * p) ns x Q ++ obls P pl cut tm Γ (2 * p + 1) ns y Q
  | p, ns, .block id c, Q => obls P pl cut tm Γ (2 * p) ns c (blockQ id Q)
  | p, ns, .loop c, Q => [∀ n, allP (obls P pl cut tm Γ (2 * p) (n :: ns) c (loopQ tm Γ p n ns Q) ++
      [allT (tm p) fun l => ∀ h, Γ p (n :: ns) l h → awp P pl cut tm Γ (2 * p) (n :: ns) c (loopQ tm Γ p n ns Q) l h])]
  | _, _, _, _ => []
def selI (q : Nat) (A B : List Nat → List Value → Hp → Prop) (p : Nat) : List Nat → List Value → Hp → Prop :=
  match Nat.beq p q with
  | true => A
  | false => B
def selP (q : Nat) (A B : Plan) (p : Nat) : Plan :=
  match Nat.beq p q with
  | true => A
  | false => B
def selT (q : Nat) (A B : List Value) (p : Nat) : List Value :=
  match Nat.beq p q with
  | true => A
  | false => B

/-- Every region that draws has a plan that serves. -/
def plansOk (P : Program) (pl : Nat → Plan) : Code → Bool
  | .region id ops draw => match draw with
    | true => Region.noSelect ops && (planOk P ops true (pl id) (Array.replicate ops.size false) && (depth (pl id)).ble ops.size)
    | false => true
  | .seq x y => plansOk P pl x && plansOk P pl y
  | .cond _ x y => plansOk P pl x && plansOk P pl y
  | .block _ c => plansOk P pl c
  | .loop c => plansOk P pl c
  | _ => true

def Qw (Q : Post) (w0 : World) (N : Nat) : Exit → Act → World → Prop
  | .panic _, _, _ | .outgrown, _, _ | .goto _, _, _ => False
  | e, a, w => a.defers = [] ∧ a.tmps.size = N ∧ Same w0 w ∧ Q e a.tmps.toList (hp w)

theorem wp_loopN {P : Program} {Q : Exit → Act → World → Prop} {c : Code} (J : Nat → Act → World → Prop)
    (round : ∀ n a w, J n a w → c.wp P (Exit.then (fun a' w' => ∃ m, m < n ∧ J m a' w') Q) a w) : ∀ n a w, J n a w → (Code.loop c).wp P Q a w := by
  intro n a w h₀ b k cs
  have key : ∀ n a w, J n a w →
      ∃ e a' w', Q e a' w' ∧ Arrives P (lone (b.at a (.code c :: .inLoop c :: k)) cs w) b k cs e a' w' := by
    intro n
    induction n using Nat.strongRecOn with
    | _ n ih =>
      intro a w hI
      obtain ⟨e, a₁, w₁, hq, harr⟩ := round n a w hI b (.inLoop c :: k) cs
      cases e with
      | normal =>
        obtain ⟨m, hlt, hI₁⟩ := hq
        obtain ⟨e₂, a₂, w₂, hq₂, harr₂⟩ := ih m hlt a₁ w₁ hI₁
        exact ⟨e₂, a₂, w₂, hq₂, .of_steps (Steps.trans harr (.one step_inLoop)) harr₂⟩
      | exit id => exact ⟨_, a₁, w₁, hq, .pass (x := .inLoop c) rfl (fun _ _ => .inl (by simp)) harr⟩
      | goto l => exact ⟨_, a₁, w₁, hq, .pass (x := .inLoop c) rfl (fun _ _ => .inl (by simp)) harr⟩
      | ret => exact ⟨_, a₁, w₁, hq, .pass (x := .inLoop c) rfl (fun _ _ => .inl (by simp)) harr⟩
      | panic ch => exact ⟨_, a₁, w₁, hq, .pass (x := .inLoop c) rfl (fun _ _ => .inl (by simp)) harr⟩
      | outgrown => exact ⟨_, a₁, w₁, hq, .pass (x := .inLoop c) rfl (fun _ _ => .inl (by simp)) harr⟩
  obtain ⟨e, a', w', hq, harr⟩ := key n a w h₀
  exact ⟨e, a', w', hq, .of_steps (.one step_loop) harr⟩


/-! ### Monotony -/
theorem shp_mono {z v : Value} {K K' : Value → Prop} (hk : ∀ v, K v → K' v) (h : shp z v K) : shp z v K' := by
  unfold shp at h ⊢
  split at h
  · unfold asIn at h ⊢
    split at h
    · split at h
      · exact hk _ h
      · exact h.elim
    · exact h.elim
  · unfold asBo at h ⊢; split at h <;> first | exact hk _ h | exact h.elim
  · unfold asStr at h ⊢; split at h <;> first | exact hk _ h | exact h.elim
  · unfold asSl at h ⊢; split at h <;> first | exact hk _ h | exact h.elim
  · unfold asPt at h ⊢; split at h <;> first | exact hk _ h | exact h.elim
  · exact hk _ h
theorem shpL_mono : ∀ {zs l acc : List Value} {K K' : List Value → Prop}, (∀ v, K v → K' v) → shpL zs l acc K → shpL zs l acc K'
  | [], l, acc, K, K', hk, h => by
    cases l with
    | nil => exact hk _ h
    | cons v r => exact h.elim
  | z :: zs, l, acc, K, K', hk, h => by
    cases l with
    | nil => exact h.elim
    | cons v r => exact shp_mono (K := fun v => shpL zs r (acc ++ [v]) K) (K' := fun v => shpL zs r (acc ++ [v]) K') (fun v hv => shpL_mono hk hv) h
theorem shA_mono {z v : Value} {K K' : Value → Prop} (hk : ∀ v, K v → K' v) (h : shA z v K) : shA z v K' := by
  unfold shA at h ⊢
  split at h
  · split at h
    · exact hk _ h
    · unfold asAg at h ⊢
      split at h
      · exact shpL_mono (fun _ => hk _) h
      · exact h.elim
  · exact shp_mono hk h
theorem shT_mono : ∀ {zs l acc : List Value} {K K' : List Value → Prop}, (∀ v, K v → K' v) → shT zs l acc K → shT zs l acc K'
  | [], l, acc, K, K', hk, h => by
    cases l with
    | nil => exact hk _ h
    | cons v r => exact h.elim
  | z :: zs, l, acc, K, K', hk, h => by
    cases l with
    | nil => exact h.elim
    | cons v r => exact shA_mono (K := fun v => shT zs r (acc ++ [v]) K) (K' := fun v => shT zs r (acc ++ [v]) K') (fun v hv => shT_mono hk hv) h
theorem shape_mono {z v : Value} {K K' : Value → Prop} (hk : ∀ v, K v → K' v) (h : shape z v K) : shape z v K' := by
  unfold shape at h ⊢
  split at h
  · split at h
    · exact hk _ h
    · unfold asTu at h ⊢
      split at h
      · exact shT_mono (fun _ => hk _) h
      · exact h.elim
  · exact shA_mono hk h
theorem oRd_mono {P : Program} {s : Sem Value} {h : Hp} {K K' : Value → Prop} (hk : ∀ v, K v → K' v) (H : oRd P s h K) : oRd P s h K' := by
  unfold oRd at H ⊢
  split at H
  · exact hk _ H
  · exact H.elim
theorem ld_mono {h : Hp} {ad : Addr} {K K' : Value → Prop} (hk : ∀ v, K v → K' v) (H : ld h ad K) : ld h ad K' := by
  unfold ld at H ⊢
  split at H
  · exact hk _ H
  · exact H.elim
theorem ldL_mono : ∀ {zs : List Value} {h : Hp} {ad : Addr} {i : Nat} {acc : List Value} {K K' : List Value → Prop}, (∀ v, K v → K' v) → ldL zs h ad i acc K → ldL zs h ad i acc K'
  | [], _, _, _, _, _, _, hk, H => hk _ H
  | _ :: _, _, _, _, _, _, _, hk, H => ld_mono (fun _ hv => shp_mono (fun _ hv => ldL_mono hk hv) hv) H
theorem roW_mono {P : Program} {o : Oper} {l : List Value} {s : Sem Value} {h : Hp} {K K' : Value → Prop} (hk : ∀ v, K v → K' v) (H : roW P o l s h K) : roW P o l s h K' := by
  unfold roW at H ⊢
  split at H
  · unfold asBo at H ⊢; split at H <;> first | exact hk _ H | exact H.elim
  · unfold ldW at H ⊢
    split at H
    · split at H
      · split at H
        · exact ld_mono (fun _ hv => shp_mono hk hv) H
        · exact H.elim
      · split at H
        · exact ldL_mono (fun _ => hk _) H
        · exact oRd_mono hk H
    · exact H.elim
  · unfold oNil at H ⊢
    split at H
    · unfold nz at H ⊢
      split at H
      · exact hk _ H
      · exact H.elim
    · exact oRd_mono hk H
  · exact oRd_mono (fun v hv => by unfold asAd at hv ⊢; split at hv <;> first | exact hk _ hv | exact hv.elim) H
  · exact oRd_mono (fun v hv => by unfold asAd at hv ⊢; split at hv <;> first | exact hk _ hv | exact hv.elim) H
  · split at H
    · exact hk _ H
    · exact oRd_mono (fun v hv => shape_mono hk hv) H
  · split at H
    · unfold nlW at H ⊢
      split at H
      · split at H <;> first | exact shape_mono hk H | exact H.elim
      · unfold asPt at H ⊢; split at H <;> first | exact shape_mono hk H | exact H.elim
      · unfold asSl at H ⊢; split at H <;> first | exact shape_mono hk H | exact H.elim
      · exact H.elim
    · exact oRd_mono (fun v hv => shape_mono hk hv) H
  · exact oRd_mono (fun v hv => shape_mono hk hv) H
theorem Nx_mono {P : Program} {K K' : Value → Hp → Prop} (hk : ∀ v h', K v h' → K' v h') : ∀ (n : Next) (h : Hp), Nx P K n h → Nx P K' n h := by
  intro n h H
  cases n <;> first
    | exact hk _ _ H
    | exact Runs.mono H hk
    | exact H
theorem stW_mono {P : Program} {t : TypeId} {x v : Value} {h : Hp} {K K' : Hp → Prop} (hk : ∀ h', K h' → K' h') (H : stW P t x v h K) : stW P t x v h K' := by
  have hL : ∀ (l : List Value) (ad : Addr) (h : Hp) (i : Nat), stL l h ad i K → stL l h ad i K' := by
    intro l ad
    induction l with
    | nil => intro h i H; exact hk _ H
    | cons c r ih => intro h i H; exact stL_aw.st_mono (fun h' hh => ih h' _ hh) H
  unfold stW at H ⊢
  split at H
  · split at H
    · split at H
      · exact stL_aw.st_mono hk H
      · exact aw_mono (fun _ h' => hk h') H
    · split at H
      · split at H
        · split at H
          · exact hL _ _ _ _ H
          · exact H.elim
        · exact H.elim
      · exact aw_mono (fun _ h' => hk h') H
  · exact H.elim
theorem nw_mono {h : Hp} {o : Obj} {K K' : Nat → Hp → Prop} (hk : ∀ r h', K r h' → K' r h') (H : nw h o K) : nw h o K' := fun r hr => hk _ _ (H r hr)
theorem plL_mono : ∀ {l : List (Nat × Value)} {A B : Prop}, (A → B) → plL l A → plL l B
  | [], _, _, h, a => h a
  | (j, v) :: r, A, B, h, a => by
    unfold plL pl at a ⊢
    split at a
    · exact plL_mono h a
    · exact a.elim
theorem efW_mono {P : Program} {o : Oper} {l : List Value} {h : Hp} {K K' : Value → Hp → Prop} (hk : ∀ v h', K v h' → K' v h') (H : efW P o l h K) : efW P o l h K' := by
  have hsh : ∀ (z v : Value) (h : Hp), (shape z v fun v => K v h) → shape z v fun v => K' v h := fun z v h => shape_mono (fun v => hk v h)
  unfold efW at H ⊢
  split at H
  · unfold allocW at H ⊢
    split at H
    · exact nw_mono (fun _ h' => hk _ h') H
    · exact H.elim
  · unfold boxW at H ⊢
    split at H
    · exact nw_mono (fun _ h' => hk _ h') H
    · unfold pl at H ⊢
      split at H
      · exact nw_mono (fun _ h' => hk _ h') H
      · exact H.elim
  · split at H
    · split at H
      · exact plL_mono (fun q => nw_mono (fun _ h' => hk _ h') q) H
      · split at H
        · split at H
          · exact nw_mono (fun _ h' => hk _ h') H
          · exact aw_mono (fun v h => hsh _ v h) H
        · exact aw_mono (fun v h => hsh _ v h) H
    · exact H.elim
  · exact stW_mono (fun h' => hk _ h') H
  · exact aw_mono (fun v h => hsh _ v h) H
  · exact aw_mono (fun v h => hsh _ v h) H
  · exact aw_mono hk H
  · exact aw_mono (fun _ h' => hk _ h') H
  · exact aw_mono (fun _ h' => hk _ h') H
  · exact aw_mono (fun v h => hsh _ v h) H
  · exact aw_mono hk H
  · exact aw_mono (fun v h => hsh _ v h) H
  · exact Spec.mono H (fun v h => hsh _ v h)
  · unfold oVal at H ⊢
    split at H
    · exact Spec.mono H (fun v h => hsh _ v h)
    · exact H.elim
  · exact aw_mono (fun n h => Nx_mono (fun v h => hsh _ v h) n h) H
  · exact aw_mono (fun n h => Nx_mono (fun v h => hsh _ v h) n h) H
  · exact H.elim

theorem seqW_sound {P : Program} {ops : Array Oper} {Q : Post} {w0 : World} {a : Act} {w : World} {id : Nat} (hd : a.defers = []) (hS : Same w0 w)
    (h : seqW P ops ops.toList a.tmps.toList (hp w) (Q .normal)) : (Code.region id ops false).wp P (Qw Q w0 a.tmps.size) a w := by
  refine wp_region ?_
  have hlen : ∀ (r : List Oper) (l : List Value) (h : Hp) (K K' : List Value → Hp → Prop), (∀ l' h', l'.length = l.length → K l' h' → K' l' h') → seqW P ops r l h K → seqW P ops r l h K' := by
    intro r
    induction r with
    | nil => intro l h K K' hk hs; exact hk _ _ rfl hs
    | cons o r ih =>
      intro l h K K' hk hs
      simp only [seqW] at hs ⊢
      have step : ∀ v h', seqW P ops r (putL l o.dst v) h' K → seqW P ops r (putL l o.dst v) h' K' := fun v h' =>
        ih _ _ _ _ fun l' h' hl' => hk l' h' (by rw [hl', putL_length])
      cases hw : wantL ops o l with
      | false => exact (guardW_false hw).2 (step _ _ ((guardW_false hw).1 hs))
      | true => exact (guardW_true hw).2 (opW_mono step ((guardW_true hw).1 hs))
  have := wpOps_seq (P := P) (ops := ops) (Q := Qw Q w0 a.tmps.size) (w0 := w0) (K := fun l h => l.length = a.tmps.size ∧ Q .normal l h)
    (fun a' w' hd' hS' ⟨hl, hK⟩ => ⟨hd', by simpa using hl, hS', hK⟩) ops.toList 0 (fun j => by simp) a w hd hS
    (hlen _ _ _ _ _ (fun l' h' hl' hK => ⟨by simpa using hl', hK⟩) h)
  rw [List.range_eq_range']
  simpa using this
where
  opW_mono {P : Program} {o : Oper} {l : List Value} {h : Hp} {K K' : Value → Hp → Prop} (hk : ∀ v h', K v h' → K' v h') (H : opW P o l h K) : opW P o l h K' := by
    unfold opW at H ⊢
    split at H
    · exact hk _ _ H
    · exact roW_mono (fun v => hk v _) H
    · exact efW_mono hk H

theorem awp_sound {P : Program} {pl : Nat → Plan} {cut : Nat → Bool} {tm : Nat → List Value} {Γ : Inv} {N : Nat} {w0 : World} (hm : P.follows .mixedOrders = true) (c : Code) :
    ∀ (p : Nat) (ns : List Nat) (Q : Post) (a : Act) (w : World), plansOk P pl c = true → allP (obls P pl cut tm Γ p ns c Q) → a.defers = [] → a.tmps.size = N → Same w0 w →
      awp P pl cut tm Γ p ns c Q a.tmps.toList (hp w) → c.wp P (Qw Q w0 N) a w := by
  induction c with
  | skip => intro p ns Q a w _ _ hd hn hS h; exact wp_skip ⟨hd, hn, hS, h⟩
  | label l => intro p ns Q a w _ _ hd hn hS h; exact wp_label ⟨hd, hn, hS, h⟩
  | exit id => intro p ns Q a w _ _ hd hn hS h; exact wp_exit ⟨hd, hn, hS, h⟩
  | ret => intro p ns Q a w _ _ hd hn hS h; exact wp_ret ⟨hd, hn, hS, h⟩
  | goto l => intro p ns Q a w _ _ hd hn hS h; exact h.elim
  | scope c => intro p ns Q a w _ _ hd hn hS h; exact h.elim
  | refuse s => intro p ns Q a w _ _ hd hn hS h; exact h.elim
  | rangeFunc => intro p ns Q a w _ _ hd hn hS h; exact h.elim
  | region id ops draw =>
    intro p ns Q a w hp' _ hd hn hS h
    subst hn
    cases draw with
    | false => exact seqW_sound hd hS h
    | true =>
      simp only [plansOk, Bool.and_eq_true] at hp'
      obtain ⟨hs, hpl, hdep⟩ := hp'
      refine wp_region_any hm (wpAny_of_L _ _ _ _ (regW_sound (w0 := w0) (K := fun l h => l.length = a.tmps.size ∧ Q .normal l h) hs (fun c a w hh => hh)
        (fun a' w' hd' hS' ⟨hl, hK⟩ => ⟨hd', by simpa using hl, hS', hK⟩) (depth (pl id)) (pl id) [] _ _ a _ (Nat.le_refl _) (Nat.le_of_ble_eq_true hdep) hpl ?_ (fun x hx => by cases hx) hd (.trans hS ⟨rfl, rfl⟩) (fun x hx => by cases hx) ?_))
      · intro j i hj
        rcases Nat.lt_or_ge j ops.size with h' | h'
        · simp [h'] at hj
        · simp [h'] at hj
      · exact regW_len _ _ _ _ _ _ (fun l' h' hl' hK => ⟨by simpa using hl', hK⟩) h
  | seq x y ihx ihy =>
    intro p ns Q a w hp' ho hd hn hS h
    simp only [plansOk, Bool.and_eq_true] at hp'
    simp only [obls] at ho
    obtain ⟨o1, ho⟩ := allP_append.1 ho
    obtain ⟨o2, o3⟩ := allP_append.1 ho
    refine wp_seq (wp_mono (ihx _ _ _ a w hp'.1 o1 hd hn hS h) fun e a' w' hq => ?_)
    cases e with
    | normal =>
      obtain ⟨hd', hn', hS', hq⟩ := hq
      simp only [thenQ] at hq
      refine ihy _ _ _ a' w' hp'.2 o2 hd' hn' hS' ?_
      cases hc : cut p with
      | false => rw [hc] at hq; exact hq
      | true =>
        rw [hc] at hq o3
        exact (allT_spec o3 hq).1 (hp w') (allT_spec o3 hq).2
    | _ => exact hq
  | cond c x y ihx ihy =>
    intro p ns Q a w hp' ho hd hn hS h
    simp only [plansOk, Bool.and_eq_true] at hp'
    simp only [obls] at ho
    replace ho := allP_append.1 ho
    simp only [awp, oIf] at h
    have fin : ∀ b : Bool, evalL a.tmps.toList c = .bool b → (match b with
        | true => awp P pl cut tm Γ (2 * p) ns x Q a.tmps.toList (hp w)
        | false => awp P pl cut tm Γ (2 * p + 1) ns y Q a.tmps.toList (hp w)) → (Code.cond c x y).wp P (Qw Q w0 N) a w := by
      intro b hb h
      rw [evalL_act] at hb
      cases b with
      | true => exact wp_cond_true hb (ihx _ _ _ a w hp'.1 ho.1 hd hn hS h)
      | false => exact wp_cond_false hb (ihy _ _ _ a w hp'.2 ho.2 hd hn hS h)
    split at h
    · rename_i d
      split at h
      · rename_i b hb
        refine fin b hb ?_
        have hs := set_same hb
        cases b <;> (dsimp only at h ⊢; rw [hs] at h; exact h)
      · exact h.elim
    · rename_i b
      exact fin b rfl h
    · exact h.elim
  | block id c ih =>
    intro p ns Q a w hp' ho hd hn hS h
    refine wp_block (wp_mono (ih _ _ _ a w hp' ho hd hn hS h) fun e a' w' hq => ?_)
    cases e with
    | exit id' =>
      obtain ⟨hd', hn', hS', hq⟩ := hq
      simp only [blockQ] at hq
      simp only [Exit.inBlock]
      cases hb : Nat.beq id' id with
      | true => rw [hb] at hq; rw [if_pos (Nat.eq_of_beq_eq_true hb)]; exact ⟨hd', hn', hS', hq⟩
      | false => rw [hb] at hq; rw [if_neg (Nat.ne_of_beq_eq_false hb)]; exact ⟨hd', hn', hS', hq⟩
    | _ => exact hq
  | loop c ih =>
    intro p ns Q a w hp' ho hd hn hS h
    obtain ⟨n, hn0⟩ := h
    refine wp_loopN (fun n a w => chk (tm p) a.tmps.toList (Γ p (n :: ns) a.tmps.toList (hp w)) ∧ a.defers = [] ∧ a.tmps.size = N ∧ Same w0 w) ?_ n a w ⟨hn0, hd, hn, hS⟩
    rintro n a w ⟨hI, hd, hn, hS⟩
    simp only [obls, allP] at ho
    obtain ⟨o1, o2⟩ := allP_append.1 (ho n)
    refine wp_mono (ih _ _ _ a w hp' o1 hd hn hS ((allT_spec o2 hI).1 (hp w) (allT_spec o2 hI).2)) fun e a' w' hq => ?_
    cases e with
    | normal =>
      obtain ⟨hd', hn', hS', m, hlt, hq⟩ := hq
      exact ⟨m, hlt, hq, hd', hn', hS'⟩
    | _ => exact hq
where
  regW_len {P : Program} {ops : Array Oper} : ∀ (p : Plan) (held : Held) (l : List Value) (h : Hp) (K K' : List Value → Hp → Prop),
      (∀ l' h', l'.length = l.length → K l' h' → K' l' h') → regW P ops p held l h K → regW P ops p held l h K' := by
    intro p
    induction p with
    | nil => intro held l h K K' hk hs; exact hk _ _ rfl hs
    | ro i p ih =>
      intro held l h K K' hk hs
      simp only [regW] at hs ⊢
      cases ho : ops[i]? with
      | none => simp only [ho] at hs
      | some o =>
        simp only [ho] at hs ⊢
        cases hw : wantL ops o l with
        | false => exact (guardW_false hw).2 (ih _ _ _ _ _ (fun l' h' hl' => hk l' h' (by rw [hl', putL_length])) ((guardW_false hw).1 hs))
        | true =>
          refine (guardW_true hw).2 ?_
          replace hs := (guardW_true hw).1 hs
          cases hc : cls P l o with
          | ef => simp only [hc] at hs
          | mv v => simp only [hc] at hs ⊢; exact ih _ _ _ _ _ (fun l' h' hl' => hk l' h' (by rw [hl', putL_length])) hs
          | ro s => simp only [hc] at hs ⊢; exact roW_mono (fun v hv => ih _ _ _ _ _ (fun l' h' hl' => hk l' h' (by rw [hl', putL_length])) hv) hs
    | ef i p q ihp ihq =>
      intro held l h K K' hk hs
      simp only [regW] at hs ⊢
      cases ho : ops[i]? with
      | none => simp only [ho] at hs
      | some o =>
        simp only [ho] at hs ⊢
        have one : guardW ops o l (fun l => opW P o l h fun v h' => stepEf (prune ops i held) h' (regW P ops p (prune ops i held) (putL l o.dst v) h' K)) (fun l => regW P ops p (prune ops i held) (putL l o.dst undef) h K) →
            guardW ops o l (fun l => opW P o l h fun v h' => stepEf (prune ops i held) h' (regW P ops p (prune ops i held) (putL l o.dst v) h' K')) (fun l => regW P ops p (prune ops i held) (putL l o.dst undef) h K') := by
          intro hs
          have hr : ∀ v h', regW P ops p (prune ops i held) (putL l o.dst v) h' K → regW P ops p (prune ops i held) (putL l o.dst v) h' K' := fun v h' =>
            ihp _ _ _ _ _ (fun l' h' hl' => hk l' h' (by rw [hl', putL_length]))
          have st : ∀ v h', stepEf (prune ops i held) h' (regW P ops p (prune ops i held) (putL l o.dst v) h' K) → stepEf (prune ops i held) h' (regW P ops p (prune ops i held) (putL l o.dst v) h' K') := by
            intro v h' hh
            have hr := hr v h'
            generalize prune ops i held = g at hh hr ⊢
            cases g with
            | nil => exact hr hh
            | cons x r => exact ⟨hh.1, hr hh.2⟩
          cases hw : wantL ops o l with
          | true => exact (guardW_true hw).2 (seqW_sound.opW_mono st ((guardW_true hw).1 hs))
          | false => exact (guardW_false hw).2 (hr _ _ ((guardW_false hw).1 hs))
        cases q with
        | nil => exact one hs
        | ro _ _ => exact ⟨one hs.1, ihq _ _ _ _ _ hk hs.2⟩
        | ef _ _ _ => exact ⟨one hs.1, ihq _ _ _ _ _ hk hs.2⟩

/-! ### Functions -/
def resL (P : Program) (fn : Func) (l : List Value) (h : Hp) (K : Value → Hp → Prop) : Prop :=
  match rd P (results fn l.toArray) h with
  | some v => K v h
  | none => False
def mkRes : List Value → Value
  | [v] => v
  | vs => .tuple vs.toArray
def resW (P : Program) : List ResultVar → List Value → Hp → List Value → (Value → Hp → Prop) → Prop
  | [], _, h, acc, K => K (mkRes acc) h
  | .tmp t :: r, l, h, acc, K => resW P r l h (acc ++ [l.getD t undef]) K
  | .cell a t :: r, l, h, acc, K => ldW P t (l.getD a undef) h fun v => resW P r l h (acc ++ [v]) K
def resOf (l : List Value) : ResultVar → Sem Value
  | .tmp t => pure (l.toArray.getD t undef)
  | .cell a t => do loadVar t (← asAddr (l.toArray.getD a undef))
theorem resW_rd {P : Program} {l : List Value} {h : Hp} {K : Value → Hp → Prop} : ∀ (rs : List ResultVar) (acc : List Value), resW P rs l h acc K →
    ∃ vs, rd P (rs.mapM (resOf l)) h = some vs ∧ K (mkRes (acc ++ vs)) h := by
  intro rs
  induction rs with
  | nil => intro acc H; exact ⟨[], rfl, by rw [List.append_nil]; exact H⟩
  | cons r rs ih =>
    intro acc H
    rw [List.mapM_cons]
    have fin : ∀ v, rd P (resOf l r) h = some v → (∃ vs, rd P (rs.mapM (resOf l)) h = some vs ∧ K (mkRes ((acc ++ [v]) ++ vs)) h) →
        ∃ vs, rd P (do let b ← resOf l r; let bs ← rs.mapM (resOf l); pure (b :: bs)) h = some vs ∧ K (mkRes (acc ++ vs)) h := by
      rintro v hv ⟨vs, h1, h2⟩
      refine ⟨v :: vs, ?_, by simpa using h2⟩
      change rd P ((resOf l r).bind fun b => (rs.mapM (resOf l)).bind fun bs => .pure (b :: bs)) h = _
      rw [rd_bind, hv, Option.bind_some, rd_bind, h1]
      rfl
    cases r with
    | tmp t => exact fin _ (by simp [resOf, rd, Pure.pure]) (ih _ H)
    | cell a t =>
      simp only [resW] at H
      have hp : ∃ ad, l.getD a undef = .pointer (some ad) := by
        unfold ldW at H
        split at H
        · rename_i ad hx; exact ⟨ad, hx⟩
        · exact H.elim
      obtain ⟨ad, hp⟩ := hp
      obtain ⟨v, hv, hk⟩ := roW_sound (P := P) (l := [.pointer (some ad)]) (o := { (default : Oper) with op := .load t (.tmp 0) }) (s := Instr.loadAt t (.pointer (some ad))) rfl (by rw [hp] at H; exact H)
      refine fin v ?_ (ih _ hk)
      have e : l.toArray.getD a undef = .pointer (some ad) := by simpa using hp
      simp only [resOf, e]
      exact hv
theorem resW_sound {P : Program} {fn : Func} {l : List Value} {h : Hp} {K : Value → Hp → Prop} (H : resW P fn.results.toList l h [] K) : resL P fn l h K := by
  obtain ⟨vs, h1, h2⟩ := resW_rd _ _ H
  have e : results fn l.toArray = (fn.results.mapM (resOf l) >>= fun vs => pure (if h : vs.size = 1 then vs[0] else .tuple vs)) := by
    unfold results
    congr 1
  have e2 : rd P (results fn l.toArray) h = some (mkRes vs) := by
    rw [e, Array.mapM_eq_mapM_toList]
    change rd P (Sem.bind (Functor.map List.toArray (fn.results.toList.mapM (resOf l))) _) h = _
    rw [rd_bind, map_eq_pure_bind]
    change Option.bind (rd P ((fn.results.toList.mapM (resOf l)).bind _) h) _ = _
    rw [rd_bind, h1]
    simp only [Option.bind_some]
    match vs with
    | [] => rfl
    | [v] => rfl
    | v :: u :: r => simp [rd, Pure.pure, mkRes]
  unfold resL
  rw [e2]
  simpa using h2
/-- What is to hold where a function ends. -/
def endQ (P : Program) (fn : Func) (K : Value → Hp → Prop) : Post
  | .normal, l, h => resW P fn.results.toList l h [] K
  | .ret, l, h => resW P fn.results.toList l h [] K
  | _, _, _ => False
/-- The first frame. -/
def frameL (args : List Value) (n : Nat) : List Value := args ++ List.replicate (n - args.length) undef
def Fits (P : Program) (f : FuncId) : Prop := ∀ args w, (callFunc f args).run P w = .ok (.enter f args) w

theorem spec_of_awp {P : Program} {f : FuncId} {fn : Func} {c : Code} {args : List Value} {h : Hp} {K : Value → Hp → Prop} {pl : Nat → Plan} {cut : Nat → Bool} {tm : Nat → List Value} {Γ : Inv}
    (hm : P.follows .mixedOrders = true) (hf : P.funcs[f]? = some fn) (hb : fn.body = some c) (hfit : Fits P f) (hp' : plansOk P pl c = true) (hn : args.length ≤ fn.ntmps)
    (H : allP (obls P pl cut tm Γ 1 [] c (endQ P fn K) ++ [awp P pl cut tm Γ 1 [] c (endQ P fn K) (frameL args fn.ntmps) h])) : Spec P f args.toArray h K := by
  replace H := allP_append.1 H
  refine ⟨hfit _, fun w hw => ?_⟩
  subst hw
  refine calls_of_wp hf hb ?_
  have hl : (args.toArray ++ Array.replicate (fn.ntmps - args.toArray.size) undef).toList = frameL args fn.ntmps := by simp [frameL]
  have hsz : (args.toArray ++ Array.replicate (fn.ntmps - args.toArray.size) undef).size = fn.ntmps := by simp; omega
  refine wp_mono (awp_sound (w0 := w) hm c 1 [] (endQ P fn K) { tmps := args.toArray ++ Array.replicate (fn.ntmps - args.toArray.size) undef, defers := [] } w hp' H.1 rfl hsz (.refl w) (by rw [hl]; exact H.2)) ?_
  intro e a w' hq
  have fin : a.defers = [] ∧ a.tmps.size = fn.ntmps ∧ Same w w' ∧ resL P fn a.tmps.toList (hp w') K → bodyPost P fn (fun e w' => ∃ v, e = .returned v ∧ K v (hp w') ∧ Same w w') .ret a w' := by
    rintro ⟨hd, _, hS, hr⟩
    unfold resL at hr
    split at hr
    · rename_i v hv
      refine ⟨hd, v, rd_sound P _ _ _ (by simpa using hv), v, rfl, hr, hS⟩
    · exact hr.elim
  cases e with
  | normal => exact fin ⟨hq.1, hq.2.1, hq.2.2.1, resW_sound hq.2.2.2⟩
  | ret => exact fin ⟨hq.1, hq.2.1, hq.2.2.1, resW_sound hq.2.2.2⟩
  | exit id => exact hq.2.2.2.elim
  | goto l => exact hq.elim
  | panic c => exact hq.elim
  | outgrown => exact hq.elim

end Go.H
namespace Go.H
theorem fits_of {P : Program} {f : FuncId} {fn : Func} (hf : P.funcs[f]? = some fn) (hb : fn.body.isNone = false) (hn : (fn.name == "runtime.NumGoroutine") = false) : Fits P f := by
  intro args w
  unfold callFunc
  simp only [Bind.bind, Sem.bind, program, Sem.run, hf, hn, hb, Bool.false_eq_true, if_false, Pure.pure]
end Go.H
namespace Go.H
/-! ### Words of the printed conditions -/
def bIf (b : Bool) (A B : Prop) : Prop :=
  match b with
  | true => A
  | false => B
def sShl (k : IntKind) (x y : Int) : Int := k.wrap (x * 2 ^ (min y.toNat k.bits))
def sShr (k : IntKind) (x y : Int) : Int := x.fdiv (2 ^ (min y.toNat k.bits))
def bAnd (k : IntKind) (x y : Int) : Int := k.wrap ((BitVec.ofInt k.bits x &&& BitVec.ofInt k.bits y).toNat)
def bOr (k : IntKind) (x y : Int) : Int := k.wrap ((BitVec.ofInt k.bits x ||| BitVec.ofInt k.bits y).toNat)
def bXor (k : IntKind) (x y : Int) : Int := k.wrap ((BitVec.ofInt k.bits x ^^^ BitVec.ofInt k.bits y).toNat)
def bAndNot (k : IntKind) (x y : Int) : Int := k.wrap ((BitVec.ofInt k.bits x &&& ~~~BitVec.ofInt k.bits y).toNat)
def bNot (k : IntKind) (x : Int) : Int := bXor k (if k.signed then -1 else k.max) x
def mnI (x y : Int) : Int := if y < x then y else x
def mxI (x y : Int) : Int := if y > x then y else x
def strEq (x y : ByteArray) : Bool := x.toList == y.toList
def strLt (x y : ByteArray) : Bool := Op.bytesLess x.toList y.toList
end Go.H
namespace Go.H
/-! ### Rules for the words of the printed conditions -/
@[simp] theorem Hp.set_same (h : Hp) (b : Nat) (o : Obj) : (h.set b o) b = some o := by simp [Hp.set]
theorem Hp.set_ne (h : Hp) {b c : Nat} (o : Obj) (hne : c ≠ b) : (h.set b o) c = h c := by simp [Hp.set, hne]
@[simp] theorem kEq_refl (k : IntKind) : kEq k k = true := by cases k <;> rfl
theorem asIn_i {k : IntKind} {n : Int} {K : Int → Prop} (H : K n) : asIn k (.int k n) K := by
  unfold asIn; simp only [kEq_refl]; exact H
section
variable {h : Hp} {b o : Nat} {cs : Array Value} {E : TypeId} {fr : Nat × Nat}
theorem ld_v {v : Value} {K : Value → Prop} (hb : h b = some (.cells cs E fr)) (hv : cs[o]? = some v) (H : K v) : ld h ⟨b, o, none⟩ K := by
  unfold ld cell; simp only [hb, hv]; exact H
theorem ld_i {k : IntKind} {n : Int} {K : Int → Prop} (hb : h b = some (.cells cs E fr)) (hv : cs[o]? = some (.int k n)) (H : K n) : ld h ⟨b, o, none⟩ fun v => asIn k v K :=
  ld_v hb hv (asIn_i H)
theorem ld_b {n : Bool} {K : Bool → Prop} (hb : h b = some (.cells cs E fr)) (hv : cs[o]? = some (.bool n)) (H : K n) : ld h ⟨b, o, none⟩ fun v => asBo v K :=
  ld_v hb hv H
theorem ld_s {n : ByteArray} {K : ByteArray → Prop} (hb : h b = some (.cells cs E fr)) (hv : cs[o]? = some (.string n)) (H : K n) : ld h ⟨b, o, none⟩ fun v => asStr v K :=
  ld_v hb hv H
theorem ld_p {n : Option Addr} {K : Option Addr → Prop} (hb : h b = some (.cells cs E fr)) (hv : cs[o]? = some (.pointer n)) (H : K n) : ld h ⟨b, o, none⟩ fun v => asPt v K :=
  ld_v hb hv H
theorem ld_l {a : Option Addr} {n c : Nat} {K : Option Addr → Nat → Nat → Prop} (hb : h b = some (.cells cs E fr)) (hv : cs[o]? = some (.slice a n c)) (H : K a n c) : ld h ⟨b, o, none⟩ fun v => asSl v K :=
  ld_v hb hv H
/-- No write to what a string shares, within the cells. -/
def Loose (cs : Array Value) (fr : Nat × Nat) : Prop := ∀ i, i < cs.size → (decide (fr.1 ≤ i) && decide (i < fr.2)) = false
theorem Loose.zero (cs : Array Value) : Loose cs (0, 0) := fun i _ => by simp
theorem Loose.set {cs : Array Value} {fr : Nat × Nat} (h : Loose cs fr) (i : Nat) (v : Value) : Loose (cs.setIfInBounds i v) fr := fun j hj => h j (by simpa using hj)
theorem st_v {v : Value} {K : Hp → Prop} (hb : h b = some (.cells cs E fr)) (hl : Loose cs fr) (hv : flatV v = true) (ho : o < cs.size)
    (H : K (h.set b (.cells (cs.setIfInBounds o v) E fr))) : st h ⟨b, o, none⟩ v K := by
  unfold st pl
  simp only [hv, hb]
  refine ⟨⟨trivial, ho, ?_⟩, H⟩
  unfold frozenH
  simp only [hb]
  exact hl o ho
end
theorem bIf_ite {b : Bool} {A B : Prop} (h1 : b = true → A) (h2 : b = false → B) : bIf b A B := by
  cases b
  · exact h2 rfl
  · exact h1 rfl
theorem bIf_dec {p : Prop} [Decidable p] {A B : Prop} (h1 : p → A) (h2 : ¬p → B) : bIf (decide p) A B :=
  bIf_ite (fun h => h1 (of_decide_eq_true h)) (fun h => h2 (of_decide_eq_false h))
theorem bIf_t {b : Bool} {A B : Prop} (h : b = true) (H : A) : bIf b A B := by subst h; exact H
theorem bIf_f {b : Bool} {A B : Prop} (h : b = false) (H : B) : bIf b A B := by subst h; exact H
theorem nz_i {ad : Addr} {K : Addr → Prop} (H : K ad) : nz (some ad) K := H
theorem wrap_i64 {n : Int} (h1 : -9223372036854775808 ≤ n) (h2 : n ≤ 9223372036854775807) : IntKind.i64.wrap n = n := by
  have e : IntKind.i64.wrap n = if n % 18446744073709551616 ≥ 9223372036854775808 then n % 18446744073709551616 - 18446744073709551616 else n % 18446744073709551616 := by
    simp [IntKind.wrap, IntKind.signed, IntKind.bits]
  rw [e]
  split <;> omega

/-! ### Whose a block is: (0, 0) what stays as it is; others: an object and its parts -/
abbrev Tag := Nat × Nat
abbrev Own := Nat → Tag
/-- What has become of the heap: of what was there only what belongs to S has changed, in what it is and whose it is. -/
structure Step (S : Tag → Prop) (o : Own) (h : Hp) (o' : Own) (h' : Hp) : Prop where
  keeps : ∀ b, h b ≠ none → ¬ S (o b) → h' b = h b
  owns : ∀ b, h b ≠ none → ¬ S (o b) → o' b = o b
  stays : ∀ b, h b ≠ none → h' b ≠ none
  inner : ∀ b, h b ≠ none → S (o b) → S (o' b)
theorem Step.refl (S : Tag → Prop) (o : Own) (h : Hp) : Step S o h o h := ⟨fun _ _ _ => rfl, fun _ _ _ => rfl, fun _ h => h, fun _ _ h => h⟩
theorem Step.trans {S : Tag → Prop} {o o' o'' : Own} {h h' h'' : Hp} (a : Step S o h o' h') (b : Step S o' h' o'' h'') : Step S o h o'' h'' :=
  ⟨fun c hc hs => (b.keeps c (a.stays c hc) (by rw [a.owns c hc hs]; exact hs)).trans (a.keeps c hc hs),
   fun c hc hs => (b.owns c (a.stays c hc) (by rw [a.owns c hc hs]; exact hs)).trans (a.owns c hc hs),
   fun c hc => b.stays c (a.stays c hc), fun c hc hs => b.inner c (a.stays c hc) (a.inner c hc hs)⟩
theorem Step.mono {S S' : Tag → Prop} {o o' : Own} {h h' : Hp} (a : Step S o h o' h') (hs : ∀ t, S t → S' t) : Step S' o h o' h' :=
  ⟨fun c hc hn => a.keeps c hc fun h => hn (hs _ h), fun c hc hn => a.owns c hc fun h => hn (hs _ h), a.stays, fun c hc hS' => by
    by_cases hS : S (o c)
    · exact hs _ (a.inner c hc hS)
    · rw [a.owns c hc hS]; exact hS'⟩
def Own.set (o : Own) (b : Nat) (t : Tag) : Own := fun x => if x = b then t else o x
@[simp] theorem Own.set_same (o : Own) (b : Nat) (t : Tag) : (o.set b t) b = t := by simp [Own.set]
theorem Own.set_ne (o : Own) {b c : Nat} (t : Tag) (hne : c ≠ b) : (o.set b t) c = o c := by simp [Own.set, hne]
/-- A new block. -/
theorem Step.new {S : Tag → Prop} {o : Own} {h : Hp} {r : Nat} (x : Obj) (t : Tag) (hr : h r = none) : Step S o h (o.set r t) (h.set r x) := by
  have hne : ∀ b, h b ≠ none → b ≠ r := fun b hb e => hb (e ▸ hr)
  exact ⟨fun b hb _ => Hp.set_ne h x (hne b hb), fun b hb _ => Own.set_ne o t (hne b hb), fun b hb => by rw [Hp.set_ne h x (hne b hb)]; exact hb,
    fun b hb hS => by rw [Own.set_ne o t (hne b hb)]; exact hS⟩
/-- A block of S, written. -/
theorem Step.put {S : Tag → Prop} {o : Own} {h : Hp} {r : Nat} (x : Obj) (hs : S (o r)) : Step S o h o (h.set r x) := by
  have hne : ∀ b, ¬ S (o b) → b ≠ r := fun b hb e => hb (e ▸ hs)
  exact ⟨fun b _ hn => Hp.set_ne h x (hne b hn), fun _ _ _ => rfl, fun b hb => by
    by_cases e : b = r
    · subst e; simp
    · rw [Hp.set_ne h x e]; exact hb, fun _ _ h => h⟩
/-- A block that was not there at first, written. -/
theorem Step.putNew {S : Tag → Prop} {o o' : Own} {h h' : Hp} {r : Nat} (a : Step S o h o' h') (x : Obj) (hr : h r = none) : Step S o h o' (h'.set r x) := by
  have hne : ∀ b, h b ≠ none → b ≠ r := fun b hb e => hb (e ▸ hr)
  exact ⟨fun b hb hn => (Hp.set_ne h' x (hne b hb)).trans (a.keeps b hb hn), a.owns, fun b hb => by rw [Hp.set_ne h' x (hne b hb)]; exact a.stays b hb, a.inner⟩
/-- Whose a block is that was not there at first, told anew. -/
theorem Step.ownNew {S : Tag → Prop} {o o' : Own} {h h' : Hp} {r : Nat} (a : Step S o h o' h') (t : Tag) (hr : h r = none) : Step S o h (o'.set r t) h' := by
  have hne : ∀ b, h b ≠ none → b ≠ r := fun b hb e => hb (e ▸ hr)
  exact ⟨a.keeps, fun b hb hn => (Own.set_ne o' t (hne b hb)).trans (a.owns b hb hn), a.stays, fun b hb hS => by rw [Own.set_ne o' t (hne b hb)]; exact a.inner b hb hS⟩
theorem Step.at {S : Tag → Prop} {o o' : Own} {h h' : Hp} (s : Step S o h o' h') {b : Nat} {x : Obj} (hb : h b = some x) (hn : ¬ S (o b)) : h' b = some x ∧ o' b = o b := by
  have hne : h b ≠ none := by rw [hb]; simp
  exact ⟨(s.keeps b hne hn).trans hb, s.owns b hne hn⟩

/-! ### Cells in a row -/
/-- Cells from a place on hold what a list says. -/
def CellsAt (cs : Array Value) (off : Nat) (xs : List Value) : Prop := ∀ i x, xs[i]? = some x → cs[off + i]? = some x
/-- A slice that can be read: its cells, all of them one owner's. -/
def Rc (o : Own) (h : Hp) (t : Tag) (sz : Nat) (a : Option Addr) (n c : Nat) (xs : List Value) : Prop :=
  xs.length = n * sz ∧ n ≤ c ∧ (n = 0 ∨ ∃ b off cs E fr, a = some ⟨b, off, none⟩ ∧ o b = t ∧ h b = some (.cells cs E fr) ∧ CellsAt cs off xs)
/-- A slice that is its owner's own: it may be grown and written. -/
def Oc (o : Own) (h : Hp) (t : Tag) (sz : Nat) (a : Option Addr) (n c : Nat) (xs : List Value) : Prop :=
  xs.length = n * sz ∧ n ≤ c ∧ (c = 0 ∨ ∃ b off cs E fr, a = some ⟨b, off, none⟩ ∧ o b = t ∧ h b = some (.cells cs E fr) ∧ CellsAt cs off xs ∧ off + c * sz ≤ cs.size ∧ Loose cs fr)
theorem Oc.read {o : Own} {h : Hp} {t : Tag} {sz : Nat} {a : Option Addr} {n c : Nat} {xs : List Value} (H : Oc o h t sz a n c xs) : Rc o h t sz a n c xs := by
  obtain ⟨h1, h2, h3⟩ := H
  refine ⟨h1, h2, ?_⟩
  rcases h3 with h3 | ⟨b, off, cs, E, fr, e1, e2, e3, e4, _, _⟩
  · exact .inl (by omega)
  · exact .inr ⟨b, off, cs, E, fr, e1, e2, e3, e4⟩
theorem Rc.step {S : Tag → Prop} {o o' : Own} {h h' : Hp} {t : Tag} {sz : Nat} {a : Option Addr} {n c : Nat} {xs : List Value} (H : Rc o h t sz a n c xs) (s : Step S o h o' h') (ht : ¬ S t) :
    Rc o' h' t sz a n c xs := by
  obtain ⟨h1, h2, h3⟩ := H
  refine ⟨h1, h2, ?_⟩
  rcases h3 with h3 | ⟨b, off, cs, E, fr, e1, e2, e3, e4⟩
  · exact .inl h3
  · obtain ⟨f1, f2⟩ := s.at e3 (by rw [e2]; exact ht)
    exact .inr ⟨b, off, cs, E, fr, e1, f2.trans e2, f1, e4⟩
theorem Oc.step {S : Tag → Prop} {o o' : Own} {h h' : Hp} {t : Tag} {sz : Nat} {a : Option Addr} {n c : Nat} {xs : List Value} (H : Oc o h t sz a n c xs) (s : Step S o h o' h') (ht : ¬ S t) :
    Oc o' h' t sz a n c xs := by
  obtain ⟨h1, h2, h3⟩ := H
  refine ⟨h1, h2, ?_⟩
  rcases h3 with h3 | ⟨b, off, cs, E, fr, e1, e2, e3, e4, e5⟩
  · exact .inl h3
  · obtain ⟨f1, f2⟩ := s.at e3 (by rw [e2]; exact ht)
    exact .inr ⟨b, off, cs, E, fr, e1, f2.trans e2, f1, e4, e5⟩
theorem Oc.nil {o : Own} {h : Hp} {t : Tag} {sz : Nat} (a : Option Addr) : Oc o h t sz a 0 0 [] := ⟨by simp, Nat.le_refl _, .inl rfl⟩

/-! ### Reading and writing rows of cells -/
theorem add_at (b off k : Nat) : (⟨b, off, none⟩ : Addr).add k = ⟨b, off + k, none⟩ := by
  unfold Addr.add
  split
  · rename_i e; subst e; rfl
  · rfl
theorem aw_loadFrom {P : Program} {h : Hp} {b off : Nat} {cs : Array Value} {E : TypeId} {fr : Nat × Nat} {K : Array Value → Hp → Prop} (hb : h b = some (.cells cs E fr)) :
    ∀ (xs : List Value) (i : Nat) (acc : Array Value), CellsAt cs (off + i) xs → K (acc ++ xs.toArray) h → aw P (loadCellsFrom ⟨b, off, none⟩ i xs.length acc) K h := by
  intro xs
  induction xs with
  | nil => intro i acc _ H; simpa [loadCellsFrom, aw, Pure.pure] using H
  | cons x xs ih =>
    intro i acc hc H
    have h0 : cs[off + i]? = some x := by simpa using hc 0 x rfl
    simp only [List.length_cons, loadCellsFrom]
    refine aw_bind' ?_
    simp only [Go.load, aw, add_at, cell, hb, h0]
    refine ih (i + 1) _ (fun j y hj => by have := hc (j + 1) y (by simpa using hj); rw [← this]; congr 1; omega) ?_
    simpa using H
theorem aw_loadCells {P : Program} {h : Hp} {b off : Nat} {cs : Array Value} {E : TypeId} {fr : Nat × Nat} {xs : List Value} {K : Array Value → Hp → Prop} (hb : h b = some (.cells cs E fr))
    (hc : CellsAt cs off xs) (H : K xs.toArray h) : aw P (loadCells ⟨b, off, none⟩ xs.length) K h :=
  aw_loadFrom hb xs 0 #[] (by simpa using hc) (by simpa using H)
/-- Cells with others laid over them. -/
def laid (cs : Array Value) (off : Nat) : List Value → Array Value
  | [] => cs
  | x :: r => laid (cs.setIfInBounds off x) (off + 1) r
theorem laid_size (off : Nat) : ∀ (xs : List Value) (cs : Array Value), (laid cs off xs).size = cs.size := by
  intro xs
  induction xs generalizing off with
  | nil => intro cs; rfl
  | cons x r ih => intro cs; simp [laid, ih]
theorem laid_get : ∀ (xs : List Value) (off : Nat) (cs : Array Value) (j : Nat), off + xs.length ≤ cs.size →
    (laid cs off xs)[j]? = if off ≤ j ∧ j < off + xs.length then xs[j - off]? else cs[j]? := by
  intro xs
  induction xs with
  | nil =>
    intro off cs j _
    have : ¬ (off ≤ j ∧ j < off + 0) := by omega
    simp [laid]; omega
  | cons x r ih =>
    intro off cs j hle
    simp only [List.length_cons] at hle
    simp only [laid]
    rw [ih (off + 1) _ j (by simp; omega)]
    by_cases h1 : j = off
    · subst h1
      have : ¬ (j + 1 ≤ j ∧ j < j + 1 + r.length) := by omega
      rw [if_neg this, if_pos ⟨Nat.le_refl _, by simp⟩]
      have hlt : j < cs.size := by omega
      simp [hlt]
    · by_cases h2 : off + 1 ≤ j ∧ j < off + 1 + r.length
      · rw [if_pos h2, if_pos (by simp only [List.length_cons]; omega)]
        have e : j - off = (j - (off + 1)) + 1 := by omega
        rw [e]; simp
      · rw [if_neg h2, if_neg (by simp only [List.length_cons]; omega)]
        rw [Array.getElem?_setIfInBounds_ne (fun e => h1 e.symm)]
theorem Loose.laid {fr : Nat × Nat} : ∀ {xs : List Value} {cs : Array Value} {off : Nat}, Loose cs fr → Loose (laid cs off xs) fr := by
  intro xs cs off h j hj
  exact h j (by rw [laid_size] at hj; exact hj)
theorem aw_storeCells {P : Program} {b : Nat} {E : TypeId} {fr : Nat × Nat} {K : Unit → Hp → Prop} : ∀ (xs : List Value) (h : Hp) (cs : Array Value) (off i : Nat),
    h b = some (.cells cs E fr) → Loose cs fr → (∀ x ∈ xs, flatV x = true) → off + i + xs.length ≤ cs.size →
    (∀ h', (∀ c, c ≠ b → h' c = h c) → h' b = some (.cells (laid cs (off + i) xs) E fr) → K () h') → aw P (storeCells ⟨b, off, none⟩ xs i) K h := by
  intro xs
  induction xs with
  | nil => intro h cs off i hb _ _ _ H; exact H h (fun _ _ => rfl) hb
  | cons x xs ih =>
    intro h cs off i hb hl hp hle H
    simp only [List.length_cons] at hle
    unfold storeCells
    refine aw_bind' ?_
    refine st_aw (K := fun _ h' => aw P (storeCells ⟨b, off, none⟩ xs (i + 1)) K h') ?_
    rw [add_at]
    refine st_v hb hl (hp x (List.mem_cons_self ..)) (by omega) ?_
    refine ih _ (cs.setIfInBounds (off + i) x) off (i + 1) (Hp.set_same _ _ _) (hl.set _ _) (fun y hy => hp y (List.mem_cons_of_mem _ hy)) (by simp; omega) ?_
    intro h' h1 h2
    exact H h' (fun c hc => (h1 c hc).trans (Hp.set_ne h _ hc)) h2
end Go.H
namespace Go.H
/-! ### append -/
def Only (t : Tag) : Tag → Prop := fun u => u = t
/-- What a type's row of the table says. -/
structure Elem (P : Program) (T e sz by_ : Nat) : Prop where
  und : P.underlying T = some (.slice e)
  info : ∃ i z, P.info? e = some i ∧ i.size = sz ∧ i.bytes = by_ ∧ i.zero = some z ∧ z.cells.size = sz
def elemOk (P : Program) (T e sz by_ : Nat) : Bool :=
  (match P.underlying T with | some (.slice e') => Nat.beq e' e | _ => false) &&
  (match P.info? e with
  | some i => Nat.beq i.size sz && (Nat.beq i.bytes by_ && match i.zero with | some z => Nat.beq z.cells.toList.length sz | none => false)
  | none => false)
theorem elem_of {P : Program} {T e sz by_ : Nat} (h : elemOk P T e sz by_ = true) : Elem P T e sz by_ := by
  unfold elemOk at h
  simp only [Bool.and_eq_true] at h
  obtain ⟨h1, h2⟩ := h
  constructor
  · split at h1
    · rename_i e' he; rw [he, Nat.eq_of_beq_eq_true h1]
    · cases h1
  · split at h2
    · rename_i i hi
      simp only [Bool.and_eq_true] at h2
      obtain ⟨a, b, c⟩ := h2
      split at c
      · rename_i z hz
        exact ⟨i, z, hi, Nat.eq_of_beq_eq_true a, Nat.eq_of_beq_eq_true b, hz, by simpa using Nat.eq_of_beq_eq_true c⟩
      · cases c
    · cases h2
/-- A source that can be read: cells of whatever owner. -/
def Src (h : Hp) (sz : Nat) (a : Option Addr) (n : Nat) (xs : List Value) : Prop :=
  xs.length = n * sz ∧ (n = 0 ∨ ∃ b off cs E fr, a = some ⟨b, off, none⟩ ∧ h b = some (.cells cs E fr) ∧ CellsAt cs off xs)
theorem Rc.src {o : Own} {h : Hp} {t : Tag} {sz : Nat} {a : Option Addr} {n c : Nat} {xs : List Value} (H : Rc o h t sz a n c xs) : Src h sz a n xs := by
  obtain ⟨h1, _, h3⟩ := H
  refine ⟨h1, ?_⟩
  rcases h3 with h3 | ⟨b, off, cs, E, fr, e1, _, e3, e4⟩
  · exact .inl h3
  · exact .inr ⟨b, off, cs, E, fr, e1, e3, e4⟩
theorem aw_first {P : Program} {h : Hp} {sz n c : Nat} {a : Option Addr} {xs : List Value} {K : Array Value → Hp → Prop} (hs : Src h sz a n xs) (H : K xs.toArray h) :
    aw P (Builtin.firstCells sz n (.slice a n c)) K h := by
  obtain ⟨h1, h2⟩ := hs
  rcases h2 with h2 | ⟨b, off, cs, E, fr, rfl, hb, hc⟩
  · subst h2
    have : xs = [] := by simpa using h1
    subst this
    cases a with
    | none => simpa [Builtin.firstCells, aw, Pure.pure] using H
    | some ad => simpa [Builtin.firstCells, loadCells, loadCellsFrom, aw, Pure.pure] using H
  · simp only [Builtin.firstCells]
    rw [← h1]
    exact aw_loadCells hb hc H

theorem aw_pure {α : Type} {P : Program} {a : α} {K : α → Hp → Prop} {h : Hp} (H : K a h) : aw P (Pure.pure a : Sem α) K h := H
theorem aw_room {P : Program} {n : Nat} {K : Unit → Hp → Prop} {h : Hp} (H : K () h) : aw P (askRoom n) K h := by
  unfold askRoom
  split
  · exact H
  · exact H
theorem append_own {P : Program} {T e sz by_ : Nat} {fl : Array Bool} {o : Own} {h : Hp} {t : Tag} {a b : Option Addr} {n c m d : Nat} {xs ys : List Value} {K : Value → Hp → Prop}
    (hE : Elem P T e sz by_) (hx : Oc o h t sz a n c xs) (hy : Src h sz b m ys) (hp : ∀ y ∈ ys, flatV y = true)
    (hbound : (2 * (n + m) + 512) * by_ ≤ 281474976710656) (hlen : n + m ≤ 9223372036854775807)
    (H : ∀ a' c' o' h', Oc o' h' t sz a' (n + m) c' (xs ++ ys) → Step (Only t) o h o' h' → (c = 0 → Step (fun _ => False) o h o' h') → K (.slice a' (n + m) c') h') :
    oNx P (builtin .append #[T, T] T fl #[.slice a n c, .slice b m d]) h K := by
  obtain ⟨hu, i, z, hi, his, hib, hiz, hzs⟩ := hE
  obtain ⟨hx1, hx2, hx3⟩ := id hx
  have hy1 := hy.1
  refine aw_vs ?_
  unfold Builtin.append_
  simp only [List.getElem?_toArray, List.getElem?_cons_zero, List.getElem?_cons_succ]
  refine aw_bind' (aw_und hu ?_)
  dsimp only
  refine aw_bind' (aw_size hi ?_)
  rw [sizeB_eq hi, his]
  refine aw_bind' (aw_und hu ?_)
  refine aw_bind' (aw_pure ?_)
  dsimp only
  rw [if_neg (by simp)]
  refine aw_bind' (aw_pure ?_)
  by_cases hcap : n + m ≤ c
  · -- there is room
    rw [if_pos hcap]
    refine aw_bind' (aw_first hy ?_)
    by_cases hc0 : c = 0
    · have hm : m = 0 := by omega
      have hn : n = 0 := by omega
      subst hm hn hc0
      have hys : ys = [] := by simpa using hy1
      have hxs : xs = [] := by simpa using hx1
      subst hys hxs
      have fin : K (.slice a (0 + 0) 0) h := H a 0 o h (Oc.nil a) (.refl _ _ _) (fun _ => .refl _ _ _)
      cases a with
      | none => exact fin
      | some ad =>
        refine aw_bind' ?_
        simp only [storeCells, aw, Pure.pure]
        exact fin
    · obtain ⟨bk, off, cs, E, fr, rfl, hob, hhb, hca, hsz, hloose⟩ := hx3.resolve_left hc0
      refine aw_bind' ?_
      have hle : off + n * sz + ys.length ≤ cs.size := by
        rw [hy1]
        have : (n + m) * sz ≤ c * sz := Nat.mul_le_mul_right _ hcap
        rw [Nat.add_mul] at this
        omega
      rw [add_at]
      refine aw_storeCells ys h cs (off + n * sz) 0 hhb hloose hp (by omega) ?_
      intro h' h1 h2
      simp only [Nat.add_zero] at h2
      refine aw_pure ?_
      have hO : Oc o h' t sz (some ⟨bk, off, none⟩) (n + m) c (xs ++ ys) := by
        refine ⟨by rw [List.length_append, hx1, hy1, Nat.add_mul], hcap, .inr ⟨bk, off, _, E, fr, rfl, hob, h2, ?_, by rw [laid_size]; exact hsz, hloose.laid⟩⟩
        intro k x hk
        rw [laid_get _ _ _ _ hle]
        by_cases hkn : k < xs.length
        · rw [List.getElem?_append_left hkn] at hk
          rw [if_neg (by omega)]
          exact hca k x hk
        · rw [List.getElem?_append_right (by omega)] at hk
          have hlt : k - xs.length < ys.length := (List.getElem?_eq_some_iff.1 hk).1
          rw [if_pos (by omega), ← hk]
          congr 1
          omega
      refine H _ c o h' hO ?_ (fun h0 => absurd h0 hc0)
      have hstep : Step (Only t) o h o (h.set bk (.cells (laid cs (off + n * sz) ys) E fr)) := Step.put _ hob
      have heq : h' = h.set bk (.cells (laid cs (off + n * sz) ys) E fr) := by
        funext k
        by_cases hk : k = bk
        · subst hk; rw [h2]; simp
        · rw [h1 k hk, Hp.set_ne h _ hk]
      rw [heq]; exact hstep
  · rw [if_neg hcap]
    have hg : ∀ (r q : Nat), Builtin.growBy (n + m) r q ≤ max q (2 * (n + m) + 512) := by
      intro r
      induction r with
      | zero => intro q; simp only [Builtin.growBy]; omega
      | succ r ih =>
        intro q
        simp only [Builtin.growBy]
        split
        · omega
        · refine Nat.le_trans (ih _) ?_
          omega
    have hcapB : Builtin.nextslicecap (n + m) c ≤ 2 * (n + m) + 512 := by
      unfold Builtin.nextslicecap
      split
      · omega
      · split
        · omega
        · have := hg 4 c; omega
    refine aw_bind' (aw_info hi ?_)
    have hM : IntKind.i64.max = 9223372036854775807 := rfl
    rw [if_neg (by rw [hM]; intro hh; have := hh.1; omega)]
    refine aw_bind' (aw_info hi ?_)
    have hfit : Builtin.nextslicecap (n + m) c * i.bytes ≤ 281474976710656 := by
      rw [hib]; exact Nat.le_trans (Nat.mul_le_mul_right _ hcapB) hbound
    rw [if_neg (by have e : (2 ^ 48 : Nat) = 281474976710656 := by decide
                   rw [e]; omega)]
    refine aw_bind' ?_
    intro tape
    refine aw_pure ?_
    generalize hcut : (Question.appendCap (n + m) c e).cut tape = newCap
    have hge : n + m ≤ newCap := by rw [← hcut]; simp only [Question.cut]; omega
    refine aw_bind' (aw_info hi ?_)
    refine aw_bind' (aw_room ?_)
    refine aw_bind' (aw_first hx.read.src ?_)
    refine aw_bind' (aw_first hy ?_)
    refine aw_bind' ?_
    unfold zeroValue
    refine aw_bind' (aw_info hi ?_)
    simp only [hiz]
    refine aw_pure ?_
    refine aw_bind' ?_
    intro r hr
    refine aw_pure (aw_pure ?_)
    have hne : ∀ b, h b ≠ none → b ≠ r := fun b hb e => hb (e ▸ hr)
    refine H _ newCap (o.set r t) _ ⟨by rw [List.length_append, hx1, hy1, Nat.add_mul], hge, .inr ⟨r, 0, _, e, (0, 0), rfl, Own.set_same _ _ _, Hp.set_same _ _ _, ?_, ?_, Loose.zero _⟩⟩ (Step.new _ _ hr) (fun _ => Step.new _ _ hr)
    · intro k x hk
      have hlt := (List.getElem?_eq_some_iff.1 hk).1
      rw [Nat.zero_add, Array.getElem?_append_left (by simpa using hlt)]
      simpa using hk
    · simp only [Array.size_append, List.size_toArray, Builtin.zeroCells, Array.size_map, Array.size_range, hzs, hx1, hy1]
      have : newCap * sz = n * sz + m * sz + (newCap - (n + m)) * sz := by
        rw [← Nat.add_mul, ← Nat.add_mul]; congr 1; omega
      omega
end Go.H
namespace Go.H
theorem rd_b {α β : Type} {P : Program} {s : Sem α} {f : α → Sem β} {h : Hp} {a : α} {r : Option β} (h1 : rd P s h = some a) (h2 : rd P (f a) h = r) : rd P (s >>= f) h = r := by
  change rd P (s.bind f) h = r
  rw [rd_bind, h1]; exact h2
theorem rd_p {α : Type} {P : Program} {h : Hp} {a : α} : rd P (Pure.pure a : Sem α) h = some a := rfl
theorem oRd_i {P : Program} {s : Sem Value} {h : Hp} {v : Value} {K : Value → Prop} (h1 : rd P s h = some v) (H : K v) : oRd P s h K := by
  unfold oRd; rw [h1]; exact H
theorem ix_slice {P : Program} {T e sz by_ : Nat} {b off n c : Nat} {k : IntKind} {i : Int} {h : Hp} {K : Addr → Prop} (hE : Elem P T e sz by_)
    (h0 : 0 ≤ i) (h1 : i < n) (H : K ⟨b, off + i.toNat * sz, none⟩) : ixA P T (.slice (some ⟨b, off, none⟩) n c) (.int k i) h K := by
  obtain ⟨hu, inf, z, hi, his, _, _, _⟩ := hE
  refine oRd_i (v := .pointer (some ⟨b, off + i.toNat * sz, none⟩)) ?_ H
  unfold Instr.indexAt
  refine rd_b (a := (k, i)) rfl ?_
  refine rd_b (rd_und.trans hu) ?_
  refine rd_b (a := (some ⟨b, off, none⟩, n, e)) rfl ?_
  refine rd_b (rd_und.trans hu) ?_
  dsimp only
  rw [if_pos ⟨h0, h1⟩]
  refine rd_b (rd_size hi) ?_
  rw [sizeB_eq hi, his, add_at]
  rfl
/-- What a type's row says of an array. -/
structure ArrT (P : Program) (T e len sz : Nat) : Prop where
  und : P.underlying T = some (.array len e)
  info : ∃ i, P.info? e = some i ∧ i.size = sz
def arrOk (P : Program) (T e len sz : Nat) : Bool :=
  (match P.underlying T with | some (.array l' e') => Nat.beq e' e && Nat.beq l' len | _ => false) &&
  (match P.info? e with | some i => Nat.beq i.size sz | none => false)
theorem arr_of {P : Program} {T e len sz : Nat} (h : arrOk P T e len sz = true) : ArrT P T e len sz := by
  unfold arrOk at h
  simp only [Bool.and_eq_true] at h
  obtain ⟨h1, h2⟩ := h
  constructor
  · split at h1
    · rename_i l' e' he
      simp only [Bool.and_eq_true] at h1
      rw [he, Nat.eq_of_beq_eq_true h1.1, Nat.eq_of_beq_eq_true h1.2]
    · cases h1
  · split at h2
    · rename_i i hi; exact ⟨i, hi, Nat.eq_of_beq_eq_true h2⟩
    · cases h2
theorem ix_arr {P : Program} {T e len sz : Nat} {b off : Nat} {k : IntKind} {i : Int} {h : Hp} {K : Addr → Prop} (hE : ArrT P T e len sz)
    (h0 : 0 ≤ i) (h1 : i < len) (H : K ⟨b, off + i.toNat * sz, none⟩) : ixA P T (.pointer (some ⟨b, off, none⟩)) (.int k i) h K := by
  obtain ⟨hu, inf, hi, his⟩ := hE
  refine oRd_i (v := .pointer (some ⟨b, off + i.toNat * sz, none⟩)) ?_ H
  unfold Instr.indexAt
  refine rd_b (a := (k, i)) rfl ?_
  refine rd_b (rd_und.trans hu) ?_
  refine rd_b (a := (⟨b, off, none⟩ : Addr)) rfl ?_
  refine rd_b (a := (some ⟨b, off, none⟩, len, e)) rfl ?_
  refine rd_b (rd_und.trans hu) ?_
  dsimp only
  rw [if_pos ⟨h0, h1⟩]
  refine rd_b (rd_size hi) ?_
  rw [sizeB_eq hi, his, add_at]
  rfl
theorem rd_bound {P : Program} {h : Hp} {k : IntKind} {x : Int} {y : Nat} {c : BoundsCode} (h0 : 0 ≤ x) (h1 : x ≤ y) : rd P (Instr.sliceBound (.int k x) y c) h = some x.toNat := by
  unfold Instr.sliceBound
  refine rd_b (a := (k, x)) rfl ?_
  dsimp only
  rw [if_pos ⟨h0, h1⟩]
  rfl
/-- Where a cut of a slice begins. -/
def cutA (a : Option Addr) (l sz c : Nat) : Option Addr := if c = l then a else a.map (·.add (l * sz))
theorem sl_lo {P : Program} {T e sz by_ : Nat} {a : Option Addr} {n c : Nat} {k : IntKind} {x : Int} {h : Hp} {K : Option Addr → Nat → Nat → Prop} (hE : Elem P T e sz by_)
    (h0 : 0 ≤ x) (h1 : x ≤ n) (H : K (cutA a x.toNat sz c) (n - x.toNat) (c - x.toNat)) :
    oRd P (Instr.sliceAt T (.slice a n c) (some (.int k x)) none none) h fun v => asSl v K := by
  obtain ⟨hu, inf, z, hi, his, _, _, _⟩ := hE
  refine oRd_i (v := .slice (cutA a x.toNat sz c) (n - x.toNat) (c - x.toNat)) ?_ H
  unfold Instr.sliceAt
  refine rd_b (rd_und.trans hu) ?_
  dsimp only
  unfold Instr.slice
  refine rd_b (rd_und.trans hu) ?_
  dsimp only
  refine rd_b (a := (x.toNat, n, c)) ?_ ?_
  · unfold Instr.sliceBounds
    refine rd_b (a := c) rfl ?_
    refine rd_b (a := n) rfl ?_
    refine rd_b (rd_bound h0 h1) ?_
    rfl
  · refine rd_b (rd_size hi) ?_
    rw [sizeB_eq hi, his]
    rfl
theorem sl_hi {P : Program} {T e sz by_ : Nat} {a : Option Addr} {n c : Nat} {k : IntKind} {x : Int} {h : Hp} {K : Option Addr → Nat → Nat → Prop} (hE : Elem P T e sz by_)
    (h0 : 0 ≤ x) (h1 : x ≤ c) (H : K a x.toNat c) :
    oRd P (Instr.sliceAt T (.slice a n c) none (some (.int k x)) none) h fun v => asSl v K := by
  obtain ⟨hu, inf, z, hi, his, _, _, _⟩ := hE
  refine oRd_i (v := .slice a x.toNat c) ?_ H
  unfold Instr.sliceAt
  refine rd_b (rd_und.trans hu) ?_
  dsimp only
  unfold Instr.slice
  refine rd_b (rd_und.trans hu) ?_
  dsimp only
  refine rd_b (a := (0, x.toNat, c)) ?_ ?_
  · unfold Instr.sliceBounds
    refine rd_b (a := c) rfl ?_
    refine rd_b (rd_bound h0 h1) ?_
    rfl
  · refine rd_b (rd_size hi) ?_
    rw [sizeB_eq hi, his]
    have e1 : (if c = 0 then a else a.map (·.add (0 * sz))) = a := by
      split
      · rfl
      · cases a <;> simp [Addr.add]
    simp only [rd_p, Nat.sub_zero, e1]
theorem sl_lohi {P : Program} {T e sz by_ : Nat} {a : Option Addr} {n c : Nat} {k k' : IntKind} {x y : Int} {h : Hp} {K : Option Addr → Nat → Nat → Prop} (hE : Elem P T e sz by_)
    (h0 : 0 ≤ x) (h1 : x ≤ y) (h2 : y ≤ c) (H : K (cutA a x.toNat sz c) (y.toNat - x.toNat) (c - x.toNat)) :
    oRd P (Instr.sliceAt T (.slice a n c) (some (.int k x)) (some (.int k' y)) none) h fun v => asSl v K := by
  obtain ⟨hu, inf, z, hi, his, _, _, _⟩ := hE
  refine oRd_i (v := .slice (cutA a x.toNat sz c) (y.toNat - x.toNat) (c - x.toNat)) ?_ H
  unfold Instr.sliceAt
  refine rd_b (rd_und.trans hu) ?_
  dsimp only
  unfold Instr.slice
  refine rd_b (rd_und.trans hu) ?_
  dsimp only
  refine rd_b (a := (x.toNat, y.toNat, c)) ?_ ?_
  · unfold Instr.sliceBounds
    refine rd_b (a := c) rfl ?_
    refine rd_b (rd_bound (by omega) h2) ?_
    refine rd_b (rd_bound h0 (by omega)) ?_
    rfl
  · refine rd_b (rd_size hi) ?_
    rw [sizeB_eq hi, his]
    rfl

/-- A cut of what can be read. -/
theorem Rc.cut {o : Own} {h : Hp} {t : Tag} {sz : Nat} {a : Option Addr} {n c : Nat} {xs : List Value} (H : Rc o h t sz a n c xs) {l m : Nat} (hl : l ≤ m) (hm : m ≤ n) :
    Rc o h t sz (cutA a l sz c) (m - l) (c - l) ((xs.drop (l * sz)).take ((m - l) * sz)) := by
  obtain ⟨h1, h2, h3⟩ := H
  have hb : m * sz ≤ n * sz := Nat.mul_le_mul_right _ hm
  have hb2 : (m - l) * sz = m * sz - l * sz := Nat.sub_mul ..
  have hb3 : l * sz ≤ m * sz := Nat.mul_le_mul_right _ hl
  refine ⟨by rw [List.length_take, List.length_drop, h1]; omega, by omega, ?_⟩
  by_cases hz : m - l = 0
  · exact .inl hz
  · rcases h3 with h3 | ⟨b, off, cs, E, fr, rfl, e2, e3, e4⟩
    · omega
    · refine .inr ⟨b, off + l * sz, cs, E, fr, ?_, e2, e3, ?_⟩
      · unfold cutA
        rw [if_neg (by omega)]
        simp [add_at]
      · intro i x hi
        rw [List.getElem?_take] at hi
        split at hi
        · rw [List.getElem?_drop] at hi
          have := e4 _ x hi
          rw [← this]; congr 1; omega
        · cases hi
/-- The beginning of what is one's own is one's own. -/
theorem Oc.take {o : Own} {h : Hp} {t : Tag} {sz : Nat} {a : Option Addr} {n c : Nat} {xs : List Value} (H : Oc o h t sz a n c xs) {m : Nat} (hm : m ≤ n) :
    Oc o h t sz a m c (xs.take (m * sz)) := by
  obtain ⟨h1, h2, h3⟩ := H
  have hb : m * sz ≤ n * sz := Nat.mul_le_mul_right _ hm
  refine ⟨by rw [List.length_take, h1]; omega, by omega, ?_⟩
  rcases h3 with h3 | ⟨b, off, cs, E, fr, rfl, e2, e3, e4, e5⟩
  · exact .inl h3
  · refine .inr ⟨b, off, cs, E, fr, rfl, e2, e3, ?_, e5⟩
    intro i x hi
    rw [List.getElem?_take] at hi
    split at hi
    · exact e4 i x hi
    · cases hi

/-- copy into a part of what is one's own. -/
theorem copy_own {P : Program} {T U e sz by_ : Nat} {fl : Array Bool} {o : Own} {h : Hp} {t : Tag} {a b : Option Addr} {n c l m d : Nat} {xs ys : List Value} {ty : TypeId} {K : Value → Hp → Prop}
    (hE : Elem P T e sz by_) (hx : Oc o h t sz a n c xs) (hl : l + m ≤ n) (hy : Src h sz b m ys) (hp : ∀ y ∈ ys, flatV y = true)
    (H : ∀ h', Oc o h' t sz a n c (xs.take (l * sz) ++ ys ++ xs.drop ((l + m) * sz)) → Step (Only t) o h o h' → K (.int .i64 m) h') :
    oNx P (builtin .copy #[T, U] ty fl #[.slice (cutA a l sz c) (n - l) (c - l), .slice b m d]) h K := by
  obtain ⟨hu, i, z, hi, his, hib, hiz, hzs⟩ := hE
  obtain ⟨hx1, hx2, hx3⟩ := id hx
  have hy1 := hy.1
  have hml : (l + m) * sz = l * sz + m * sz := Nat.add_mul ..
  refine aw_vs ?_
  unfold Builtin.copy_
  simp only [List.getElem?_toArray, List.getElem?_cons_zero, List.getElem?_cons_succ]
  refine aw_bind' (aw_und hu ?_)
  dsimp only
  refine aw_bind' (aw_pure ?_)
  refine aw_bind' (aw_size hi ?_)
  rw [sizeB_eq hi, his]
  have hmin : Nat.min m (n - l) = m := Nat.min_eq_left (by omega)
  rw [hmin]
  refine aw_bind' (aw_first hy ?_)
  have key : xs.length = n * sz := hx1
  rcases hx3 with hc0 | ⟨bk, off, cs, E, fr, rfl, hob, hhb, hca, hsz, hloose⟩
  · have hm : m = 0 := by omega
    have hn : n = 0 := by omega
    have hl0 : l = 0 := by omega
    subst hm hn hl0 hc0
    have hys : ys = [] := by simpa using hy1
    have hxs : xs = [] := by simpa using hx1
    subst hys hxs
    have fin : K (.int .i64 (0 : Nat)) h := H h (by simpa using Oc.nil a) (.refl _ _ _)
    cases hca : cutA a 0 sz 0 with
    | none => exact fin
    | some ad =>
      refine aw_bind' ?_
      simp only [storeCells, aw, Pure.pure]
      exact fin
  · have hn : n * sz ≤ c * sz := Nat.mul_le_mul_right _ hx2
    have hlm : (l + m) * sz ≤ n * sz := Nat.mul_le_mul_right _ hl
    by_cases hcl : c = l
    · have hm : m = 0 := by omega
      subst hm
      have hys : ys = [] := by simpa using hy1
      subst hys
      simp only [cutA, hcl, if_true]
      refine aw_bind' ?_
      simp only [storeCells, aw, Pure.pure]
      refine H h ?_ (.refl _ _ _)
      have hh := hx
      rw [hcl] at hh
      simpa [Nat.add_mul, hcl] using hh
    · simp only [cutA, if_neg hcl, Option.map_some, add_at]
      refine aw_bind' ?_
      have hle : off + l * sz + ys.length ≤ cs.size := by rw [hy1]; omega
      refine aw_storeCells ys h cs (off + l * sz) 0 hhb hloose hp (by omega) ?_
      intro h' h1 h2
      simp only [Nat.add_zero] at h2
      refine aw_pure ?_
      have heq : h' = h.set bk (.cells (laid cs (off + l * sz) ys) E fr) := by
        funext k
        by_cases hk : k = bk
        · subst hk; rw [h2]; simp
        · rw [h1 k hk, Hp.set_ne h _ hk]
      refine H h' ⟨?_, hx2, .inr ⟨bk, off, _, E, fr, rfl, hob, h2, ?_, by rw [laid_size]; exact hsz, hloose.laid⟩⟩ (by rw [heq]; exact Step.put _ hob)
      · rw [List.length_append, List.length_append, List.length_take, List.length_drop, hx1, hy1]; omega
      · intro k x hk
        rw [laid_get _ _ _ _ hle]
        rw [List.getElem?_append] at hk
        split at hk
        · rename_i hlt
          rw [List.getElem?_append] at hk
          rw [List.length_append, List.length_take, hx1, hy1] at hlt
          split at hk
          · rename_i hlt2
            rw [List.length_take, hx1] at hlt2
            rw [if_neg (by omega)]
            rw [List.getElem?_take] at hk
            rw [if_pos (by omega)] at hk
            exact hca k x hk
          · rename_i hlt2
            rw [List.length_take, hx1] at hlt2 hk
            rw [if_pos (by rw [hy1]; omega), ← hk]
            congr 1; omega
        · rename_i hlt
          rw [List.length_append, List.length_take, hx1, hy1] at hlt hk
          rw [if_neg (by rw [hy1]; omega)]
          rw [List.getElem?_drop] at hk
          refine hca k x ?_
          rw [← hk]; congr 1; omega
end Go.H
namespace Go.H
theorem zeroCells_one (z0 : Value) (k : Nat) : Builtin.zeroCells #[z0] k = (List.replicate k z0).toArray := by
  apply Array.ext'
  simp only [Builtin.zeroCells, List.size_toArray, List.length_cons, List.length_nil, Nat.zero_add, Nat.mul_one, Array.toList_map, Array.toList_range]
  apply List.ext_getElem
  · simp
  · intro i h1 h2
    simp [Nat.mod_one]
/-- append of zeros (append(xs, make([]T, k)...)), the elements of one cell. -/
theorem append_zeros {P : Program} {T U e by_ : Nat} {fl : Array Bool} {o : Own} {h : Hp} {t : Tag} {a : Option Addr} {n c : Nat} {x : Int} {z0 : Value} {xs : List Value} {K : Value → Hp → Prop}
    (hE : Elem P T e 1 by_) (hU : ∃ k, P.underlying U = some (.int k)) (hz : (P.info? e).bind (·.zero) = some z0) (hpz : flatV z0 = true) (hx : Oc o h t 1 a n c xs)
    (hx0 : 0 ≤ x) (hbound : (2 * (n + x.toNat) + 512) * by_ ≤ 281474976710656) (hlen : n + x.toNat ≤ 9223372036854775807) (hxb : x * by_ ≤ 281474976710656)
    (H : ∀ a' c' o' h', Oc o' h' t 1 a' (n + x.toNat) c' (xs ++ List.replicate x.toNat z0) → Step (Only t) o h o' h' → K (.slice a' (n + x.toNat) c') h') :
    oNx P (builtin .append #[T, U] T fl #[.slice a n c, .int .i64 x]) h K := by
  obtain ⟨hu, i, z, hi, his, hib, hiz, hzs⟩ := hE
  obtain ⟨k, hk⟩ := hU
  obtain ⟨hx1, hx2, hx3⟩ := id hx
  have hzz : z = z0 := by rw [hi] at hz; simp only [Option.bind_some, hiz, Option.some.injEq] at hz; exact hz
  subst hzz
  have hzc : z.cells = #[z] := cells_plain hpz
  have hw : IntKind.i64.wrap x = x := wrap_i64 (by omega) (by omega)
  refine aw_vs ?_
  unfold Builtin.append_
  simp only [List.getElem?_toArray, List.getElem?_cons_zero, List.getElem?_cons_succ]
  refine aw_bind' (aw_und hu ?_)
  dsimp only
  refine aw_bind' (aw_size hi ?_)
  rw [sizeB_eq hi, his]
  refine aw_bind' (aw_und hk ?_)
  refine aw_bind' (aw_pure ?_)
  dsimp only
  rw [if_pos rfl]
  unfold asInt
  refine aw_bind' (aw_bind' ?_)
  simp only [asIntOf]
  refine aw_pure (aw_pure ?_)
  dsimp only
  rw [hw, if_neg (by omega)]
  refine aw_bind' (aw_info hi ?_)
  rw [hib, if_neg (by have e : ((2 : Int) ^ 48) = 281474976710656 := by decide
                      rw [e]; omega)]
  refine aw_bind' (aw_pure ?_)
  generalize hm : x.toNat = m at *
  have hfirst : ∀ (K' : Array Value → Hp → Prop), K' (List.replicate m z).toArray h → aw P (if (!true) = true then Builtin.firstCells 1 m (.int .i64 x) else if m * 1 = 0 then Pure.pure #[] else do
      let __do_lift ← zeroValue e
      Pure.pure (Builtin.zeroCells __do_lift.cells m)) K' h := by
    intro K' H'
    rw [if_neg (by simp)]
    split
    · rename_i h0
      have : m = 0 := by omega
      subst this
      exact H'
    · refine aw_bind' ?_
      unfold zeroValue
      refine aw_bind' (aw_info hi ?_)
      simp only [hiz]
      refine aw_pure (aw_pure ?_)
      rw [hzc, zeroCells_one]
      exact H'
  have hys1 : (List.replicate m z).length = m := List.length_replicate ..
  by_cases hcap : n + m ≤ c
  · rw [if_pos hcap]
    refine aw_bind' (hfirst _ ?_)
    rcases hx3 with hc0 | ⟨bk, off, cs, E, fr, rfl, hob, hhb, hca, hsz, hloose⟩
    · have hm : m = 0 := by omega
      have hn : n = 0 := by omega
      subst hm hn hc0
      have hxs : xs = [] := by simpa using hx1
      subst hxs
      have fin : K (.slice a (0 + 0) 0) h := H a 0 o h (Oc.nil a) (.refl _ _ _)
      cases a with
      | none => exact fin
      | some ad =>
        refine aw_bind' ?_
        simp only [List.replicate_zero, storeCells, aw, Pure.pure]
        exact fin
    · refine aw_bind' ?_
      have hle : off + n * 1 + (List.replicate m z).length ≤ cs.size := by rw [hys1]; omega
      rw [add_at]
      refine aw_storeCells (List.replicate m z) h cs (off + n * 1) 0 hhb hloose (fun y hy => by rw [(List.mem_replicate.1 hy).2]; exact hpz) (by omega) ?_
      intro h' h1 h2
      simp only [Nat.add_zero] at h2
      refine aw_pure ?_
      have hO : Oc o h' t 1 (some ⟨bk, off, none⟩) (n + m) c (xs ++ List.replicate m z) := by
        refine ⟨by rw [List.length_append, hx1, hys1]; omega, hcap, .inr ⟨bk, off, _, E, fr, rfl, hob, h2, ?_, by rw [laid_size]; exact hsz, hloose.laid⟩⟩
        intro k x hk
        rw [laid_get _ _ _ _ hle]
        by_cases hkn : k < xs.length
        · rw [List.getElem?_append_left hkn] at hk
          rw [if_neg (by omega)]
          exact hca k x hk
        · rw [List.getElem?_append_right (by omega)] at hk
          have hlt : k - xs.length < (List.replicate m z).length := (List.getElem?_eq_some_iff.1 hk).1
          rw [if_pos (by omega), ← hk]
          congr 1
          omega
      refine H _ c o h' hO ?_
      have heq : h' = h.set bk (.cells (laid cs (off + n * 1) (List.replicate m z)) E fr) := by
        funext k
        by_cases hk : k = bk
        · subst hk; rw [h2]; simp
        · rw [h1 k hk, Hp.set_ne h _ hk]
      rw [heq]; exact Step.put _ hob
  · rw [if_neg hcap]
    have hg : ∀ (r q : Nat), Builtin.growBy (n + m) r q ≤ max q (2 * (n + m) + 512) := by
      intro r
      induction r with
      | zero => intro q; simp only [Builtin.growBy]; omega
      | succ r ih =>
        intro q
        simp only [Builtin.growBy]
        split
        · omega
        · refine Nat.le_trans (ih _) ?_
          omega
    have hcapB : Builtin.nextslicecap (n + m) c ≤ 2 * (n + m) + 512 := by
      unfold Builtin.nextslicecap
      split
      · omega
      · split
        · omega
        · have := hg 4 c; omega
    refine aw_bind' (aw_info hi ?_)
    have hM : IntKind.i64.max = 9223372036854775807 := rfl
    rw [if_neg (by rw [hM]; intro hh; have := hh.1; omega)]
    refine aw_bind' (aw_info hi ?_)
    have hfit : Builtin.nextslicecap (n + m) c * i.bytes ≤ 281474976710656 := by
      rw [hib]; exact Nat.le_trans (Nat.mul_le_mul_right _ hcapB) hbound
    rw [if_neg (by have e : (2 ^ 48 : Nat) = 281474976710656 := by decide
                   rw [e]; omega)]
    refine aw_bind' ?_
    intro tape
    refine aw_pure ?_
    generalize hcut : (Question.appendCap (n + m) c e).cut tape = newCap
    have hge : n + m ≤ newCap := by rw [← hcut]; simp only [Question.cut]; omega
    refine aw_bind' (aw_info hi ?_)
    refine aw_bind' (aw_room ?_)
    refine aw_bind' (aw_first hx.read.src ?_)
    refine aw_bind' (hfirst _ ?_)
    refine aw_bind' ?_
    unfold zeroValue
    refine aw_bind' (aw_info hi ?_)
    simp only [hiz]
    refine aw_pure ?_
    refine aw_bind' ?_
    intro r hr
    refine aw_pure (aw_pure ?_)
    refine H _ newCap (o.set r t) _ ⟨by rw [List.length_append, hx1, hys1]; omega, hge, .inr ⟨r, 0, _, e, (0, 0), rfl, Own.set_same _ _ _, Hp.set_same _ _ _, ?_, ?_, Loose.zero _⟩⟩ (Step.new _ _ hr)
    · intro k x hk
      have hlt := (List.getElem?_eq_some_iff.1 hk).1
      rw [Nat.zero_add, Array.getElem?_append_left (by simpa using hlt)]
      rw [List.append_toArray, List.getElem?_toArray]; exact hk
    · simp only [Array.size_append, List.size_toArray, Builtin.zeroCells, Array.size_map, Array.size_range, hzs, hx1, List.length_replicate]
      omega
end Go.H
namespace Go.H
/-- A list's cells, each element's by R, sz cells each. -/
def RowsOf {α : Type} (sz : Nat) (R : α → List Value → Prop) : List α → List Value → Prop
  | [], xs => xs = []
  | x :: l, xs => ∃ c r, xs = c ++ r ∧ c.length = sz ∧ R x c ∧ RowsOf sz R l r
theorem RowsOf.length {α : Type} {sz : Nat} {R : α → List Value → Prop} : ∀ {l : List α} {xs : List Value}, RowsOf sz R l xs → xs.length = l.length * sz
  | [], _, h => by rw [h]; simp
  | x :: l, _, ⟨c, r, e, hc, _, hr⟩ => by rw [e, List.length_append, hc, hr.length, List.length_cons, Nat.succ_mul]; omega
theorem RowsOf.mono {α : Type} {sz : Nat} {R R' : α → List Value → Prop} : ∀ {l : List α} {xs : List Value}, RowsOf sz R l xs → (∀ x c, x ∈ l → R x c → R' x c) → RowsOf sz R' l xs
  | [], _, h, _ => h
  | x :: l, _, ⟨c, r, e, hc, h, hr⟩, hm => ⟨c, r, e, hc, hm x c (List.mem_cons_self ..) h, hr.mono fun y c hy => hm y c (List.mem_cons_of_mem _ hy)⟩
theorem RowsOf.append {α : Type} {sz : Nat} {R : α → List Value → Prop} : ∀ {l l' : List α} {xs ys : List Value}, RowsOf sz R l xs → RowsOf sz R l' ys → RowsOf sz R (l ++ l') (xs ++ ys)
  | [], _, _, _, h, h' => by rw [h]; exact h'
  | x :: l, _, _, _, ⟨c, r, e, hc, h, hr⟩, h' => ⟨c, r ++ _, by rw [e, List.append_assoc], hc, h, hr.append h'⟩
theorem RowsOf.one {α : Type} {sz : Nat} {R : α → List Value → Prop} {x : α} {c : List Value} (h : R x c) (hc : c.length = sz) : RowsOf sz R [x] c := ⟨c, [], by simp, hc, h, rfl⟩
theorem RowsOf.get {α : Type} {sz : Nat} {R : α → List Value → Prop} : ∀ {l : List α} {xs : List Value} {i : Nat} {x : α}, RowsOf sz R l xs → l[i]? = some x →
    ∃ c, c.length = sz ∧ R x c ∧ ∀ j v, c[j]? = some v → xs[i * sz + j]? = some v
  | [], _, i, x, _, hi => by simp at hi
  | y :: l, _, 0, x, ⟨c, r, e, hc, h, _⟩, hi => by
    simp only [List.getElem?_cons_zero, Option.some.injEq] at hi
    subst hi
    refine ⟨c, hc, h, fun j v hj => ?_⟩
    have := (List.getElem?_eq_some_iff.1 hj).1
    rw [e, Nat.zero_mul, Nat.zero_add, List.getElem?_append_left this]; exact hj
  | y :: l, _, i + 1, x, ⟨c, r, e, hc, _, hr⟩, hi => by
    obtain ⟨c', h1, h2, h3⟩ := hr.get (i := i) (by simpa using hi)
    refine ⟨c', h1, h2, fun j v hj => ?_⟩
    rw [e, List.getElem?_append_right (by rw [hc, Nat.succ_mul]; omega), hc, ← h3 j v hj]
    congr 1; rw [Nat.succ_mul]; omega
theorem RowsOf.take {α : Type} {sz : Nat} {R : α → List Value → Prop} : ∀ {l : List α} {xs : List Value} (n : Nat), RowsOf sz R l xs → RowsOf sz R (l.take n) (xs.take (n * sz))
  | [], _, n, h => by rw [h]; simp [RowsOf]
  | x :: l, _, 0, h => by simp [RowsOf]
  | x :: l, _, n + 1, ⟨c, r, e, hc, h, hr⟩ => by
    refine ⟨c, r.take (n * sz), ?_, hc, h, hr.take n⟩
    rw [e, show (n + 1) * sz = c.length + n * sz by rw [hc, Nat.succ_mul]; omega, List.take_length_add_append]
theorem RowsOf.drop {α : Type} {sz : Nat} {R : α → List Value → Prop} : ∀ {l : List α} {xs : List Value} (n : Nat), RowsOf sz R l xs → RowsOf sz R (l.drop n) (xs.drop (n * sz))
  | [], _, n, h => by rw [h]; simp [RowsOf]
  | x :: l, _, 0, h => by simpa using h
  | x :: l, _, n + 1, ⟨c, r, e, hc, h, hr⟩ => by
    rw [e, show (n + 1) * sz = c.length + n * sz by rw [hc, Nat.succ_mul]; omega, List.drop_length_add_append]
    exact hr.drop n
/-- A cell of what can be read. -/
theorem Rc.at {o : Own} {h : Hp} {t : Tag} {sz : Nat} {a : Option Addr} {n c : Nat} {xs : List Value} (H : Rc o h t sz a n c xs) (hn : 0 < n) :
    ∃ b off cs E fr, a = some ⟨b, off, none⟩ ∧ o b = t ∧ h b = some (.cells cs E fr) ∧ CellsAt cs off xs := by
  rcases H.2.2 with h0 | h0
  · omega
  · exact h0
end Go.H
namespace Go.H
/-- One row of what can be read. -/
theorem Rc.row {α : Type} {R : α → List Value → Prop} {o : Own} {h : Hp} {t : Tag} {sz : Nat} {a : Option Addr} {n c : Nat} {xs : List Value} {l : List α} {i : Nat} {x : α} (H : Rc o h t sz a n c xs) (hr : RowsOf sz R l xs) (hi : l[i]? = some x) (hz : 0 < sz) :
    ∃ b off cs E fr cl, a = some ⟨b, off, none⟩ ∧ o b = t ∧ h b = some (.cells cs E fr) ∧ cl.length = sz ∧ R x cl ∧ ∀ j v, cl[j]? = some v → cs[off + i * sz + j]? = some v := by
  have hl := hr.length
  have h1 := H.1
  have h2 : n * sz = l.length * sz := by omega
  have h3 : n = l.length := Nat.eq_of_mul_eq_mul_right hz h2
  have h4 := (List.getElem?_eq_some_iff.1 hi).1
  obtain ⟨b, off, cs, E, fr, e1, e2, e3, e4⟩ := H.at (by omega)
  obtain ⟨cl, f1, f2, f3⟩ := hr.get hi
  exact ⟨b, off, cs, E, fr, cl, e1, e2, e3, f1, f2, fun j v hj => by rw [Nat.add_assoc]; exact e4 _ _ (f3 j v hj)⟩
theorem RowsOf.count {α : Type} {R : α → List Value → Prop} {o : Own} {h : Hp} {t : Tag} {sz : Nat} {a : Option Addr} {n c : Nat} {xs : List Value} {l : List α} (hr : RowsOf sz R l xs) (H : Rc o h t sz a n c xs) (hz : 0 < sz) : n = l.length := by
  have hl := hr.length
  have h1 := H.1
  exact Nat.eq_of_mul_eq_mul_right hz (by omega)
end Go.H
namespace Go.H
/-- A read of one cell, as a run. -/
theorem rd_load {P : Program} {T : TypeId} {h : Hp} {b o : Nat} {cs : Array Value} {E : TypeId} {fr : Nat × Nat} {v : Value} (ha : aggB P T = false) (hd : ∃ d, P.underlying T = some d)
    (hb : h b = some (.cells cs E fr)) (hv : cs[o]? = some v) : rd P (Instr.loadAt T (.pointer (some ⟨b, o, none⟩))) h = some v := by
  obtain ⟨d, hd⟩ := hd
  unfold Instr.loadAt
  change rd P (Sem.bind (Sem.pure _) _) h = _
  rw [rd_bind]
  simp only [rd, Option.bind_some]
  unfold loadVar
  change rd P (Sem.bind (isAgg T) _) h = _
  rw [rd_bind, rd_agg hd, ha]
  have hc : cell h ⟨b, o, none⟩ = some v := by simp [cell, hb, hv]
  simp [rd, Go.load, hc]
/-- A type that is one cell. -/
def leafOk (P : Program) (T : TypeId) : Bool := (match P.underlying T with | some _ => true | none => false) && !aggB P T
theorem leaf_of {P : Program} {T : TypeId} (h : leafOk P T = true) : aggB P T = false ∧ ∃ d, P.underlying T = some d := by
  unfold leafOk at h
  simp only [Bool.and_eq_true, Bool.not_eq_true'] at h
  refine ⟨h.2, ?_⟩
  have := h.1
  split at this
  · exact ⟨_, by assumption⟩
  · cases this
theorem rd_same {P : Program} {T : TypeId} {h h' : Hp} {b o : Nat} {cs : Array Value} {E : TypeId} {fr : Nat × Nat} (hl : leafOk P T = true)
    (hb : h b = some (.cells cs E fr)) (ho : o < cs.size) (hb' : h' b = some (.cells cs E fr)) :
    rd P (Instr.loadAt T (.pointer (some ⟨b, o, none⟩))) h' = rd P (Instr.loadAt T (.pointer (some ⟨b, o, none⟩))) h := by
  obtain ⟨h1, h2⟩ := leaf_of hl
  have hv : cs[o]? = some cs[o] := by simp [ho]
  rw [rd_load h1 h2 hb hv, rd_load h1 h2 hb' hv]
end Go.H
namespace Go.H
theorem asSl_i {a : Option Addr} {n c : Nat} {K : Option Addr → Nat → Nat → Prop} (H : K a n c) : asSl (.slice a n c) K := H
theorem asBo_i {b : Bool} {K : Bool → Prop} (H : K b) : asBo (.bool b) K := H
end Go.H
namespace Go.H
theorem asAg_i {xs : List Value} {K : List Value → Prop} (H : K xs) : asAg (.agg xs.toArray) K := H
theorem asTu_i {xs : List Value} {K : List Value → Prop} (H : K xs) : asTu (.tuple xs.toArray) K := H
theorem unc_i {v : Value} {l : List Value} {K : Value → List Value → Prop} (H : K v l) : unc (v :: l) K := H
theorem nilL_i {A : Prop} (H : A) : nilL [] A := H
theorem asPt_i {a : Option Addr} {K : Option Addr → Prop} (H : K a) : asPt (.pointer a) K := H
theorem asAd_i {a : Addr} {K : Addr → Prop} (H : K a) : asAd (.pointer (some a)) K := H
theorem asStr_i {s : ByteArray} {K : ByteArray → Prop} (H : K s) : asStr (.string s) K := H
end Go.H
namespace Go.H
theorem shr_i {P : Program} {t : TypeId} {h : Hp} {k yk : IntKind} {x y : Int} {c : Bool} {K : Value → Prop} (h0 : 0 ≤ y) (H : K (.int k (sShr k x y))) : oRd P (sBin .shr t c (.int k x) (.int yk y)) h K := by
  refine oRd_i (v := .int k (sShr k x y)) ?_ H
  have e : Op.shift .shr k x yk y = pure (.int k (sShr k x y)) := by simp [Op.shift, Int.not_lt.mpr h0, sShr]
  change rd P (Sem.bind (Sem.pure ()) fun _ => Op.shift .shr k x yk y) h = _
  rw [rd_bind, e]
  rfl
theorem shl_i {P : Program} {t : TypeId} {h : Hp} {k yk : IntKind} {x y : Int} {c : Bool} {K : Value → Prop} (h0 : 0 ≤ y) (H : K (.int k (sShl k x y))) : oRd P (sBin .shl t c (.int k x) (.int yk y)) h K := by
  refine oRd_i (v := .int k (sShl k x y)) ?_ H
  have e : Op.shift .shl k x yk y = pure (.int k (sShl k x y)) := by simp [Op.shift, Int.not_lt.mpr h0, sShl]
  change rd P (Sem.bind (Sem.pure ()) fun _ => Op.shift .shl k x yk y) h = _
  rw [rd_bind, e]
  rfl
end Go.H
namespace Go.H
theorem Hp.set_set (h : Hp) (r : Nat) (x y : Obj) : (h.set r x).set r y = h.set r y := by
  funext q
  unfold Hp.set
  split <;> rfl
end Go.H
namespace Go.H
theorem st_to {v : Value} {K : Hp → Prop} {h : Hp} {b o : Nat} {cs cs' : Array Value} {E : TypeId} {fr : Nat × Nat} (hb : h b = some (.cells cs E fr)) (hl : Loose cs fr) (hv : flatV v = true) (ho : o < cs.size)
    (hc : cs.setIfInBounds o v = cs') (H : ∀ h', h' = h.set b (.cells cs' E fr) → K h') : st h ⟨b, o, none⟩ v K :=
  st_v hb hl hv ho (by rw [hc]; exact H _ rfl)
theorem nw_to {x : Obj} {K : Nat → Hp → Prop} {h : Hp} (H : ∀ r h', h r = none → h' = h.set r x → K r h') : nw h x K := fun r hr => H r _ hr rfl
end Go.H
namespace Go.H
theorem Rc.take {o : Own} {h : Hp} {t : Tag} {sz : Nat} {a : Option Addr} {n c : Nat} {xs : List Value} (H : Rc o h t sz a n c xs) {m : Nat} (hm : m ≤ n) : Rc o h t sz a m c (xs.take (m * sz)) := by
  obtain ⟨h1, h2, h3⟩ := H
  have hb : m * sz ≤ n * sz := Nat.mul_le_mul_right _ hm
  refine ⟨by rw [List.length_take, h1]; omega, by omega, ?_⟩
  rcases h3 with h3 | ⟨b, off, cs, E, fr, e1, e2, e3, e4⟩
  · exact .inl (by omega)
  · refine .inr ⟨b, off, cs, E, fr, e1, e2, e3, fun i x hx => e4 i x ?_⟩
    rw [List.getElem?_take] at hx
    split at hx
    · exact hx
    · cases hx
end Go.H
namespace Go.H
theorem Step.no {S : Tag → Prop} {o o' : Own} {h h' : Hp} (st : Step (fun _ => False) o h o' h') : Step S o h o' h' := st.mono (by simp)
end Go.H
namespace Go.H
/-- What a method of the object τ may change. -/
def Of (τ : Nat) : Tag → Prop := fun t => t.1 = τ
/-- All but what stands for good. -/
def Mut : Tag → Prop := fun t => t ≠ (0, 0)
theorem Step.ofMut {τ : Nat} {o o' : Own} {h h' : Hp} (hτ : 2 ≤ τ) (st : Step (Of τ) o h o' h') : Step Mut o h o' h' := st.mono (by rintro t rfl e; rw [e] at hτ; simp at hτ)
end Go.H
namespace Go.H
theorem Rc.none {o : Own} {h : Hp} {t : Tag} {sz : Nat} {a : Option Addr} {c : Nat} : Rc o h t sz a 0 c [] := ⟨by simp, by omega, .inl rfl⟩
end Go.H
set_option linter.unusedVariables false
namespace Go.H
/-! ### Texts as lists of bytes -/
def str (l : List UInt8) : ByteArray := ⟨l.toArray⟩
theorem str_toList (l : List UInt8) : (str l).toList = l := by rw [ByteArray.toList_eq]; rfl
theorem strEq_str (a b : List UInt8) : strEq (str a) (str b) = (a == b) := by unfold strEq; rw [str_toList, str_toList]
theorem str_size (l : List UInt8) : (str l).size = l.length := by simp [str, ByteArray.size]
/-- A byte in a cell. -/
def by8 (x : UInt8) : Value := .int .u8 x.toNat
theorem plain_by8 {l : List UInt8} : ∀ y ∈ l.map by8, flatV y = true := by
  intro y hy
  obtain ⟨x, _, rfl⟩ := List.mem_map.1 hy
  rfl
theorem rd_loadCellsFrom {P : Program} {h : Hp} {b off : Nat} {cs : Array Value} {E : TypeId} {fr : Nat × Nat} (hb : h b = some (.cells cs E fr)) :
    ∀ (xs : List Value) (i : Nat) (acc : Array Value), CellsAt cs (off + i) xs → rd P (loadCellsFrom ⟨b, off, none⟩ i xs.length acc) h = some (acc ++ xs.toArray) := by
  intro xs
  induction xs with
  | nil => intro i acc _; simp [loadCellsFrom, rd, Pure.pure]
  | cons x xs ih =>
    intro i acc hc
    have h0 := hc 0 x rfl
    simp only [Nat.add_zero] at h0
    simp only [List.length_cons, loadCellsFrom]
    change rd P (Sem.bind (Go.load _) _) h = _
    rw [rd_bind, add_at]
    have hv : cell h ⟨b, off + i, none⟩ = some x := by simp [cell, hb, h0]
    simp only [Go.load, rd, hv, Option.bind_some]
    rw [ih (i + 1) (acc.push x) (fun j y hj => by have := hc (j + 1) y (by simpa using hj); rw [← this]; congr 1; omega)]
    simp
theorem rd_loadCells {P : Program} {h : Hp} {b off : Nat} {cs : Array Value} {E : TypeId} {fr : Nat × Nat} {xs : List Value} (hb : h b = some (.cells cs E fr)) (hc : CellsAt cs off xs) :
    rd P (loadCells ⟨b, off, none⟩ xs.length) h = some xs.toArray := by
  have := rd_loadCellsFrom (P := P) hb xs 0 #[] hc
  simpa [loadCells] using this
theorem foldl_push (l : List UInt8) : ∀ s : ByteArray, (l.map fun x => ((x.toNat : Nat) : Int)).foldl (fun r n => r.push (UInt8.ofNat n.toNat)) s = ⟨s.data ++ l.toArray⟩ := by
  induction l with
  | nil => intro s; simp
  | cons x l ih =>
    intro s
    simp only [List.map_cons, List.foldl_cons, Int.toNat_natCast]
    rw [ih]
    simp [ByteArray.push]
theorem rd_forIn_bytes {P : Program} {h : Hp} (f : Value → ByteArray → Sem (ForInStep ByteArray))
    (hf : ∀ (n : Int) (r : ByteArray), rd P (f (.int .u8 n) r) h = some (.yield (r.push (UInt8.ofNat n.toNat)))) :
    ∀ (ns : List Int) (s : ByteArray), rd P (forIn (ns.map (Value.int .u8)) s f) h = some (ns.foldl (fun r n => r.push (UInt8.ofNat n.toNat)) s) := by
  intro ns
  induction ns with
  | nil => intro s; rfl
  | cons n ns ih =>
    intro s
    simp only [List.map_cons, List.forIn_cons, List.foldl_cons]
    refine rd_b (hf n s) ?_
    exact ih _
/-- Types of bytes, and of texts. -/
structure BytesT (P : Program) (T S e : Nat) : Prop where
  und : P.underlying T = some (.slice e)
  el : P.underlying e = some (.int .u8)
  st : P.underlying S = some .string
def bytesOk (P : Program) (T S e : Nat) : Bool :=
  (match P.underlying T with | some (.slice e') => Nat.beq e' e | _ => false) && (match P.underlying e with | some (.int .u8) => true | _ => false) && (match P.underlying S with | some .string => true | _ => false)
theorem bytes_of {P : Program} {T S e : Nat} (h : bytesOk P T S e = true) : BytesT P T S e := by
  unfold bytesOk at h
  simp only [Bool.and_eq_true] at h
  obtain ⟨⟨h1, h2⟩, h3⟩ := h
  refine ⟨?_, ?_, ?_⟩
  · split at h1
    · rename_i e' he; rw [he, Nat.eq_of_beq_eq_true h1]
    · cases h1
  · split at h2
    · assumption
    · cases h2
  · split at h3
    · assumption
    · cases h3
/-- string(bytes) -/
theorem rd_str {P : Program} {T S e : Nat} {o : Own} {h : Hp} {t : Tag} {a : Option Addr} {n c : Nat} {l : List UInt8} (hB : BytesT P T S e) (hx : Rc o h t 1 a n c (l.map by8)) :
    rd P (convert T S (.slice a n c)) h = some (.string (str l)) := by
  unfold convert
  refine rd_b (rd_und.trans hB.und) ?_
  refine rd_b (rd_und.trans hB.st) ?_
  dsimp only
  refine rd_b (rd_und.trans hB.el) ?_
  dsimp only
  unfold Conv.bytesToString
  have hn : n = l.length := by have := hx.1; simp at this; omega
  cases a with
  | none =>
    have h0 : n = 0 := by
      rcases hx.2.2 with h0 | ⟨_, _, _, _, _, e0, _⟩
      · exact h0
      · cases e0
    have : l = [] := List.length_eq_zero_iff.1 (by omega)
    subst this
    rfl
  | some ad =>
    have key : rd P (loadCells ad n) h = some (l.map by8).toArray := by
      rcases hx.2.2 with h0 | ⟨b, off, cs, E, fr, e0, e1, e2, e3⟩
      · have : l = [] := List.length_eq_zero_iff.1 (by omega)
        subst this
        subst h0
        rfl
      · cases e0
        have := rd_loadCells (P := P) e2 e3
        rw [List.length_map, ← hn] at this
        exact this
    dsimp only
    refine rd_b key ?_
    rw [List.forIn_toArray]
    have hm : l.map by8 = (l.map fun x => ((x.toNat : Nat) : Int)).map (Value.int .u8) := by rw [List.map_map]; rfl
    rw [hm]
    refine rd_b (rd_forIn_bytes _ (by intro n r; rfl) _ _) ?_
    rw [foldl_push]
    simp [rd, Pure.pure, str]
theorem str_ok {P : Program} {T S e : Nat} {o : Own} {h : Hp} {t : Tag} {a : Option Addr} {n c : Nat} {l : List UInt8} {K : ByteArray → Prop} (hB : BytesT P T S e) (hx : Rc o h t 1 a n c (l.map by8)) (H : K (str l)) :
    oRd P (convert T S (.slice a n c)) h fun v => asStr v K := oRd_i (rd_str hB hx) H
/-- []byte("..") of a text that is written down. -/
theorem lit_ok {P : Program} {T S e : Nat} {h : Hp} (o : Own) (t : Tag) {l : List UInt8} {cs : Array Value} {n : Nat} {E : TypeId} {K : Option Addr → Nat → Nat → Hp → Prop} (hB : BytesT P T S e) (hcs : cs = (l.map by8).toArray) (hn : n = l.length)
    (H : ∀ o' h' r, h r = none → Oc o' h' t 1 (some ⟨r, 0, none⟩) n n (l.map by8) → Step (fun _ => False) o h o' h' → K (some ⟨r, 0, none⟩) n n h') :
    nw h (.cells cs E) fun r h => oAw P (convert T T (.slice (some ⟨r, 0, none⟩) n n)) h fun v h => asSl v fun a l c => K a l c h := by
  refine nw_to ?_
  intro r h1 hr hh1
  have hb : h1 r = some (.cells cs E) := by rw [hh1]; exact Hp.set_same _ _ _
  unfold oAw convert
  refine aw_bind' (aw_und hB.und ?_)
  refine aw_bind' (aw_und hB.und ?_)
  dsimp only
  refine aw_bind' (aw_und hB.el ?_)
  have e0 : (T == T) = true := by simp
  rw [e0]
  dsimp only
  refine aw_bind' ?_
  unfold markStringish
  refine aw_bind' ?_
  have hs : shapeH h1 r = some (E, cs.size) := by simp [shapeH, hb]
  show aw P (match shapeH h1 r with | some (_, n) => freeze { block := r, off := n } 1 | _ => pure ()) _ h1
  rw [hs]
  show aw P (freeze { block := r, off := cs.size } 1) _ h1
  simp only [freeze, aw, hb]
  have hne : ¬ (1 = 0) := by omega
  rw [if_neg hne]
  refine aw_pure ?_
  have hsz : cs.size = n := by rw [hcs, hn]; simp
  have hset : h1.set r (.cells cs E (if ((0 : Nat) == 0) = true then (cs.size, cs.size + 1) else (min 0 cs.size, max 0 (cs.size + 1)))) = h.set r (.cells cs E (n, n + 1)) := by
    rw [hh1, Hp.set_set, hsz]; rfl
  refine asSl_i ?_
  show K _ _ _ (h1.set r _)
  rw [hset]
  refine H (o.set r t) _ r hr ⟨by simp [hn], Nat.le_refl _, .inr ⟨r, 0, cs, E, (n, n + 1), rfl, Own.set_same _ _ _, Hp.set_same _ _ _, ?_, by omega, ?_⟩⟩ (Step.new _ _ hr)
  · intro i x hx
    rw [Nat.zero_add, hcs]
    simpa using hx
  · intro i hi
    simp
    omega
end Go.H
namespace Go.H
theorem str_append (a b : List UInt8) : str a ++ str b = str (a ++ b) := by
  apply ByteArray.ext
  simp [str, ByteArray.data_append]
theorem str_extract (l : List UInt8) (a b : Nat) : (str l).extract a b = str ((l.take b).drop a) := by
  apply ByteArray.ext
  rw [ByteArray.data_extract]
  simp only [str]
  rw [List.extract_toArray]
  congr 1
  rw [List.extract_eq_take_drop, List.drop_take]
theorem str_add {P : Program} {t : TypeId} {h : Hp} {c : Bool} {a b : List UInt8} {K : ByteArray → Prop} (hl : a.length + b.length ≤ 9223372036854775807) (H : K (str (a ++ b))) :
    oRd P (sBin .add t c (.string (str a)) (.string (str b))) h fun v => asStr v K := by
  refine oRd_i (v := .string (str (a ++ b))) ?_ H
  have e : Op.stringOp .add (str a) (str b) = pure (.string (str (a ++ b))) := by
    unfold Op.stringOp
    dsimp only
    rw [str_size, str_size, if_neg (by have hM : IntKind.i64.max = 9223372036854775807 := rfl
                                       rw [hM]; omega), str_append]
  change rd P (Sem.bind (Sem.pure ()) fun _ => Op.stringOp .add (str a) (str b)) h = _
  rw [rd_bind, e]
  rfl
theorem str_hi {P : Program} {T S e : Nat} {h : Hp} {k : IntKind} {x : Int} {l : List UInt8} {K : ByteArray → Prop} (hB : BytesT P T S e) (h0 : 0 ≤ x) (h1 : x ≤ l.length) (H : K (str (l.take x.toNat))) :
    oRd P (Instr.sliceAt S (.string (str l)) none (some (.int k x)) none) h fun v => asStr v K := by
  refine oRd_i (v := .string (str (l.take x.toNat))) ?_ H
  unfold Instr.sliceAt
  refine rd_b (rd_und.trans hB.st) ?_
  dsimp only
  unfold Instr.slice
  refine rd_b (rd_und.trans hB.st) ?_
  dsimp only
  rw [str_size]
  refine rd_b (a := (0, x.toNat, l.length)) ?_ ?_
  · unfold Instr.sliceBounds
    refine rd_b (a := l.length) rfl ?_
    refine rd_b (rd_bound h0 h1) ?_
    rfl
  · simp [rd, Pure.pure, str_extract]
theorem str_lo {P : Program} {T S e : Nat} {h : Hp} {k : IntKind} {x : Int} {l : List UInt8} {K : ByteArray → Prop} (hB : BytesT P T S e) (h0 : 0 ≤ x) (h1 : x ≤ l.length) (H : K (str (l.drop x.toNat))) :
    oRd P (Instr.sliceAt S (.string (str l)) (some (.int k x)) none none) h fun v => asStr v K := by
  refine oRd_i (v := .string (str (l.drop x.toNat))) ?_ H
  unfold Instr.sliceAt
  refine rd_b (rd_und.trans hB.st) ?_
  dsimp only
  unfold Instr.slice
  refine rd_b (rd_und.trans hB.st) ?_
  dsimp only
  rw [str_size]
  refine rd_b (a := (x.toNat, l.length, l.length)) ?_ ?_
  · unfold Instr.sliceBounds
    refine rd_b (a := l.length) rfl ?_
    refine rd_b (a := l.length) rfl ?_
    refine rd_b (rd_bound h0 h1) ?_
    rfl
  · simp [rd, Pure.pure, str_extract]
theorem str_lohi {P : Program} {T S e : Nat} {h : Hp} {k k' : IntKind} {x y : Int} {l : List UInt8} {K : ByteArray → Prop} (hB : BytesT P T S e) (h0 : 0 ≤ x) (h1 : x ≤ y) (h2 : y ≤ l.length) (H : K (str ((l.take y.toNat).drop x.toNat))) :
    oRd P (Instr.sliceAt S (.string (str l)) (some (.int k x)) (some (.int k' y)) none) h fun v => asStr v K := by
  refine oRd_i (v := .string (str ((l.take y.toNat).drop x.toNat))) ?_ H
  unfold Instr.sliceAt
  refine rd_b (rd_und.trans hB.st) ?_
  dsimp only
  unfold Instr.slice
  refine rd_b (rd_und.trans hB.st) ?_
  dsimp only
  rw [str_size]
  refine rd_b (a := (x.toNat, y.toNat, l.length)) ?_ ?_
  · unfold Instr.sliceBounds
    refine rd_b (a := l.length) rfl ?_
    refine rd_b (rd_bound (by omega) h2) ?_
    refine rd_b (rd_bound h0 (by omega)) ?_
    rfl
  · simp [rd, Pure.pure, str_extract]
end Go.H
set_option linter.unusedVariables false
namespace Go.H
/-- A type that is a row of cells, and how many. -/
def aggOk (P : Program) (T n : Nat) : Bool := aggB P T && (match P.info? T with | some i => Nat.beq i.size n | none => false) && (match P.underlying T with | some _ => true | none => false)
theorem agg_of {P : Program} {T n : Nat} (h : aggOk P T n = true) : aggB P T = true ∧ (∃ i, P.info? T = some i ∧ i.size = n) ∧ ∃ d, P.underlying T = some d := by
  unfold aggOk at h
  simp only [Bool.and_eq_true] at h
  refine ⟨h.1.1, ?_, ?_⟩
  · have := h.1.2
    split at this
    · rename_i i hi; exact ⟨i, hi, Nat.eq_of_beq_eq_true this⟩
    · cases this
  · have := h.2
    split at this
    · exact ⟨_, by assumption⟩
    · cases this
theorem rd_ldAgg {P : Program} {T n : Nat} {h : Hp} {b off : Nat} {cs : Array Value} {E : TypeId} {fr : Nat × Nat} {xs : List Value} (hT : aggOk P T n = true) (hb : h b = some (.cells cs E fr)) (hc : CellsAt cs off xs) (hn : xs.length = n) :
    rd P (Instr.loadAt T (.pointer (some ⟨b, off, none⟩))) h = some (.agg xs.toArray) := by
  obtain ⟨h1, ⟨i, h2, h3⟩, d, hd⟩ := agg_of hT
  unfold Instr.loadAt
  change rd P (Sem.bind (Sem.pure _) _) h = _
  rw [rd_bind]
  simp only [rd, Option.bind_some]
  unfold loadVar
  change rd P (Sem.bind (isAgg T) _) h = _
  rw [rd_bind, rd_agg hd, h1]
  simp only [Option.bind_some, if_true]
  refine rd_b (rd_size h2) ?_
  rw [sizeB_eq h2, h3, ← hn]
  refine rd_b (rd_loadCells hb hc) ?_
  rfl
theorem ldAgg {P : Program} {T n : Nat} {h : Hp} {b off : Nat} {cs : Array Value} {E : TypeId} {fr : Nat × Nat} {xs : List Value} {K : Value → Prop} (hT : aggOk P T n = true) (hb : h b = some (.cells cs E fr)) (hc : CellsAt cs off xs) (hn : xs.length = n)
    (H : K (.agg xs.toArray)) : oRd P (Instr.loadAt T (.pointer (some ⟨b, off, none⟩))) h K := oRd_i (rd_ldAgg hT hb hc hn) H
theorem stAgg {P : Program} {T n : Nat} {h : Hp} {b off : Nat} {cs : Array Value} {E : TypeId} {fr : Nat × Nat} {xs : List Value} {K : Hp → Prop} (hT : aggOk P T n = true) (hb : h b = some (.cells cs E fr)) (hl : Loose cs fr) (hf : ∀ x ∈ xs, flatV x = true) (hn : xs.length = n) (ho : off + n ≤ cs.size)
    (H : K (h.set b (.cells (laid cs off xs) E fr))) : oSt P (Instr.storeAt T (.pointer (some ⟨b, off, none⟩)) (.agg xs.toArray)) h K := by
  obtain ⟨h1, ⟨i, h2, h3⟩, d, hd⟩ := agg_of hT
  unfold oSt Instr.storeAt
  refine aw_bind' ?_
  change aw P (Sem.pure _) _ h
  simp only [aw]
  unfold storeVar
  refine aw_bind' (aw_size h2 ?_)
  have hsz : (Value.agg xs.toArray).cells.size = n := by simp [Value.cells, hn]
  rw [sizeB_eq h2, h3, hsz]
  simp only [ne_eq, not_true, if_false]
  have e : (Value.agg xs.toArray).cells.toList = xs := by simp [Value.cells]
  rw [e]
  refine aw_storeCells xs h cs off 0 hb hl hf (by omega) ?_
  intro h' g1 g2
  have : h' = h.set b (.cells (laid cs off xs) E fr) := by
    funext c
    by_cases hc : c = b
    · subst hc; rw [g2, Hp.set_same]; rfl
    · rw [g1 c hc, Hp.set_ne _ _ hc]
  rw [this]; exact H
theorem ixAgg {P : Program} {T e n : Nat} {k : IntKind} {i : Int} {h : Hp} {xs : List Value} {v : Value} {K : Value → Prop} (hE : ArrT P T e n 1) (he : leafOk P e = true) (hv : xs[i.toNat]? = some v) (hn : xs.length = n) (h0 : 0 ≤ i)
    (H : K v) : oRd P (Instr.index T (.agg xs.toArray) (.int k i)) h K := by
  refine oRd_i ?_ H
  obtain ⟨hu, inf, hi, his⟩ := hE
  have hlt : i.toNat < xs.length := (List.getElem?_eq_some_iff.1 hv).1
  unfold Instr.index
  refine rd_b (a := (k, i)) rfl ?_
  refine rd_b (rd_und.trans hu) ?_
  dsimp only
  rw [if_pos ⟨h0, by omega⟩]
  refine rd_b (rd_size hi) ?_
  rw [sizeB_eq hi, his]
  obtain ⟨g1, d, g2⟩ := leaf_of he
  unfold part
  refine rd_b (rd_agg g2) ?_
  rw [g1]
  simp [rd, hv, Pure.pure]
end Go.H
namespace Go.H
/-! ### What a call has made stands apart: the callee's own names for blocks -/
abbrev ownZ : Own := fun _ => (0, 0)
theorem Rc.own0 {o : Own} {h : Hp} {t : Tag} {sz : Nat} {a : Option Addr} {n c : Nat} {xs : List Value} (H : Rc o h t sz a n c xs) : Rc ownZ h (0, 0) sz a n c xs := by
  obtain ⟨h1, h2, h3⟩ := H
  refine ⟨h1, h2, ?_⟩
  rcases h3 with h3 | ⟨b, off, cs, E, fr, e1, _, e3, e4⟩
  · exact .inl h3
  · exact .inr ⟨b, off, cs, E, fr, e1, rfl, e3, e4⟩
/-- The caller's names: what stood keeps its own; what is new is named out of the callee's name. -/
def Own.join (o : Own) (h : Hp) (o1 : Own) (f : Tag → Tag) : Own := fun b => if (h b).isSome then o b else f (o1 b)
theorem Step.join {o o1 : Own} {h h' : Hp} (f : Tag → Tag) (s : Step Mut ownZ h o1 h') : Step (fun _ => False) o h (o.join h o1 f) h' := by
  refine ⟨fun b hb _ => s.keeps b hb (fun hm => hm rfl), fun b hb _ => ?_, s.stays, fun b _ hf => hf.elim⟩
  unfold Own.join
  rw [if_pos (by cases hq : h b with | none => exact absurd hq hb | some _ => rfl)]
theorem Own.join_new {o o1 : Own} {h h' : Hp} {f : Tag → Tag} {b : Nat} (s : Step Mut ownZ h o1 h') (hn : o1 b ≠ (0, 0)) : (o.join h o1 f) b = f (o1 b) := by
  unfold Own.join
  cases hq : h b with
  | none => simp
  | some x => exact absurd ((s.at hq (fun hm => hm rfl)).2) hn
theorem Rc.join {o o1 : Own} {h h' : Hp} {f : Tag → Tag} {t : Tag} {sz : Nat} {a : Option Addr} {n c : Nat} {xs : List Value} (H : Rc o1 h' t sz a n c xs) (s : Step Mut ownZ h o1 h') (ht : t ≠ (0, 0)) : Rc (o.join h o1 f) h' (f t) sz a n c xs := by
  obtain ⟨h1, h2, h3⟩ := H
  refine ⟨h1, h2, ?_⟩
  rcases h3 with h3 | ⟨b, off, cs, E, fr, e1, e2, e3, e4⟩
  · exact .inl h3
  · exact .inr ⟨b, off, cs, E, fr, e1, (Own.join_new s (by rw [e2]; exact ht)).trans (by rw [e2]), e3, e4⟩
theorem Oc.join {o o1 : Own} {h h' : Hp} {f : Tag → Tag} {t : Tag} {sz : Nat} {a : Option Addr} {n c : Nat} {xs : List Value} (H : Oc o1 h' t sz a n c xs) (s : Step Mut ownZ h o1 h') (ht : t ≠ (0, 0)) : Oc (o.join h o1 f) h' (f t) sz a n c xs := by
  obtain ⟨h1, h2, h3⟩ := H
  refine ⟨h1, h2, ?_⟩
  rcases h3 with h3 | ⟨b, off, cs, E, fr, e1, e2, e3, e4, e5⟩
  · exact .inl h3
  · exact .inr ⟨b, off, cs, E, fr, e1, (Own.join_new s (by rw [e2]; exact ht)).trans (by rw [e2]), e3, e4, e5⟩
end Go.H
