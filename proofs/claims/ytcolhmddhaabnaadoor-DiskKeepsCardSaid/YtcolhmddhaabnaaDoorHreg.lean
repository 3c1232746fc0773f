import Derived.Test.YtcolhmddhaabnaaDoorHwp
namespace Go.H

/-! ### Operations in a row; regions that draw their order, by a plan -/
def gd (t : Value) (want : Bool) : Bool := (match t with | .bool b => some b | _ => none) == some want
def wantL (all : Array Oper) (o : Oper) (l : List Value) : Bool :=
  match o.guard with
  | none => true
  | some (j, want) => match (all[j]?).bind (·.dst) with
    | some d => gd (l.getD d undef) want
    | none => false
/-- By a bool that stands in a slot; each way knows which it is. -/
def gB (l : List Value) (d : Nat) (want : Bool) (A B : List Value → Prop) : Prop :=
  match l.getD d undef with
  | .bool b => match b with
    | true => (match want with | true => A (l.set d (.bool true)) | false => B (l.set d (.bool true)))
    | false => (match want with | true => B (l.set d (.bool false)) | false => A (l.set d (.bool false)))
  | _ => B l
def guardW (all : Array Oper) (o : Oper) (l : List Value) (A B : List Value → Prop) : Prop :=
  match o.guard with
  | none => A l
  | some (j, want) => match (all[j]?).bind (·.dst) with
    | some d => gB l d want A B
    | none => B l
theorem set_same {l : List Value} {d : Nat} {b : Bool} (h : l.getD d undef = .bool b) : l.set d (.bool b) = l := by
  rcases Nat.lt_or_ge d l.length with h' | h'
  · have : l[d] = .bool b := by simpa [h'] using h
    rw [← this]
    exact List.set_getElem_self h'
  · exact List.set_eq_of_length_le h'
theorem guardW_true {all : Array Oper} {o : Oper} {l : List Value} {A B : List Value → Prop} (h : wantL all o l = true) : guardW all o l A B ↔ A l := by
  unfold wantL at h
  unfold guardW
  cases hg : o.guard with
  | none => exact Iff.rfl
  | some jw =>
    obtain ⟨j, want⟩ := jw
    rw [hg] at h
    dsimp only at h ⊢
    cases hd : (all[j]?).bind (·.dst) with
    | none => rw [hd] at h; cases h
    | some d =>
      rw [hd] at h
      dsimp only at h ⊢
      unfold gd at h
      unfold gB
      cases ht : l.getD d undef with
      | bool b =>
        rw [ht] at h
        have hs := set_same ht
        cases b <;> cases want <;> first | exact absurd h (by decide) | (dsimp only; rw [hs])
      | _ => rw [ht] at h; cases h
theorem guardW_false {all : Array Oper} {o : Oper} {l : List Value} {A B : List Value → Prop} (h : wantL all o l = false) : guardW all o l A B ↔ B l := by
  unfold wantL at h
  unfold guardW
  cases hg : o.guard with
  | none => rw [hg] at h; cases h
  | some jw =>
    obtain ⟨j, want⟩ := jw
    rw [hg] at h
    dsimp only at h ⊢
    cases hd : (all[j]?).bind (·.dst) with
    | none => exact Iff.rfl
    | some d =>
      rw [hd] at h
      dsimp only at h ⊢
      unfold gd at h
      unfold gB
      cases ht : l.getD d undef with
      | bool b =>
        rw [ht] at h
        have hs := set_same ht
        cases b <;> cases want <;> first | exact absurd h (by decide) | (dsimp only; rw [hs])
      | _ => exact Iff.rfl
def seqW (P : Program) (all : Array Oper) : List Oper → List Value → Hp → (List Value → Hp → Prop) → Prop
  | [], l, h, K => K l h
  | o :: r, l, h, K => guardW all o l (fun l => opW P o l h fun v h' => seqW P all r (putL l o.dst v) h' K) (fun l => seqW P all r (putL l o.dst undef) h K)

theorem wantL_eq (all : Array Oper) (o : Oper) (a : Act) : wantL all o a.tmps.toList = Region.wanted o (yielded all a.tmps) := by
  unfold wantL Region.wanted
  cases hg : o.guard with
  | none => rfl
  | some jw =>
    obtain ⟨j, want⟩ := jw
    simp only [yielded]
    cases hd : (all[j]?).bind (·.dst) with
    | none => rfl
    | some d =>
      simp only [Option.bind_some, gd]
      rcases Nat.lt_or_ge d a.tmps.size with hlt | hge
      · have e1 : a.tmps[d]? = some a.tmps[d] := by simp [hlt]
        have e2 : a.tmps.toList.getD d undef = a.tmps[d] := by simp [hlt]
        rw [e1, e2]
        cases a.tmps[d] <;> rfl
      · have e1 : a.tmps[d]? = none := by simp [hge]
        have e2 : a.tmps.toList.getD d undef = undef := by simp [hge]
        rw [e1, e2]
        rfl

theorem wpOps_seq {P : Program} {ops : Array Oper} {Q : Exit → Act → World → Prop} {w0 : World} {K : List Value → Hp → Prop}
    (hQ : ∀ a w, a.defers = [] → Same w0 w → K a.tmps.toList (hp w) → Q .normal a w) :
    ∀ (r : List Oper) (k : Nat), (∀ j, r[j]? = ops[k + j]?) → ∀ (a : Act) (w : World), a.defers = [] → Same w0 w →
      seqW P ops r a.tmps.toList (hp w) K → wpOps P ops Q (List.range' k r.length) a w := by
  intro r
  induction r with
  | nil => intro k hk a w hd hS h; simpa [wpOps] using hQ a w hd hS h
  | cons o r ih =>
    intro k hk a w hd hS h
    have ho : ops[k]? = some o := by have := hk 0; simpa using this.symm
    have hk' : ∀ j, r[j]? = ops[k + 1 + j]? := by
      intro j; have := hk (j + 1); simp only [List.getElem?_cons_succ] at this; rw [this]; congr 1; omega
    simp only [List.length_cons, List.range'_succ, wpOps, ho]
    simp only [seqW] at h
    have hwl := wantL_eq ops o a
    cases hw : Region.wanted o (yielded ops a.tmps) with
    | true =>
      replace h := (guardW_true (hwl.trans hw)).1 h
      simp only [if_true]
      refine .inl (opW_sound h fun v w' hK hS' => ?_)
      refine ih (k + 1) hk' _ w' (by rw [put_defers]; exact hd) (hS.trans hS') ?_
      rw [putL_put]; exact hK
    | false =>
      replace h := (guardW_false (hwl.trans hw)).1 h
      simp only [Bool.false_eq_true, if_false]
      refine ih (k + 1) hk' _ w (by rw [put_defers]; exact hd) hS ?_
      rw [putL_put]; exact h

/-- The order in which a region that draws is walked: reads first, as far as they can be; where several others may come, each. -/
inductive Plan where
  | nil
  | ro (i : Nat) (p : Plan)
  | ef (i : Nat) (p q : Plan)
  deriving Inhabited

def edgeTo (ops : Array Oper) (j i : Nat) : Bool :=
  match ops[j]? with
  | some o => o.after.toList.any fun e => Region.binds .any e && e.on == i
  | none => false
def reach2 (ops : Array Oper) (j i : Nat) : Bool :=
  match ops[j]? with
  | some o => o.after.toList.any fun e => Region.binds .any e && (e.on == i || edgeTo ops e.on i)
  | none => false
def efOp (P : Program) (o : Oper) : Bool :=
  match cls P [] o with
  | .ef => true
  | _ => false
abbrev Held := List (Nat × (Hp → Prop))
def heldOk : Held → Hp → Prop
  | [], _ => True
  | [x], h => x.2 h
  | x :: r, h => x.2 h ∧ heldOk r h
def stepEf (held : Held) (h : Hp) (A : Prop) : Prop :=
  match held with
  | [] => A
  | _ => heldOk held h ∧ A
def prune (ops : Array Oper) (i : Nat) : Held → Held
  | [] => []
  | x :: r => match reach2 ops i x.1 with
    | true => prune ops i r
    | false => x :: prune ops i r

/-! ### What a computation reads, whatever the heap -/
def NM {α : Type} (P : Program) (s : Sem α) : Prop := ∀ (h h' : Hp), rd P s h = rd P s h'
theorem NM.pure {α : Type} {P : Program} (a : α) : NM P (Sem.pure a) := fun _ _ => rfl
theorem NM.bind {α β : Type} {P : Program} {s : Sem α} {f : α → Sem β} (h : NM P s) (hf : ∀ a, NM P (f a)) : NM P (s.bind f) := by
  intro g g'
  rw [rd_bind, rd_bind, h g g']
  cases rd P s g' with
  | none => rfl
  | some a => exact hf a g g'
theorem NM.halt {α : Type} {P : Program} (x : Halt) : NM P (Sem.halt x : Sem α) := fun _ _ => rfl
theorem NM.prog {α : Type} {P : Program} {k : Program → Sem α} (h : NM P (k P)) : NM P (program.bind k) := fun g g' => h g g'
theorem NM.typeInfo {P : Program} (t : TypeId) : NM P (typeInfo t) := by
  refine NM.prog ?_
  split <;> first | exact .pure _ | exact .halt _
theorem NM.underlying {P : Program} (t : TypeId) : NM P (underlying t) := by
  refine NM.prog ?_
  split <;> first | exact .pure _ | exact .halt _
theorem NM.sizeOf {P : Program} (t : TypeId) : NM P (Go.sizeOf t) := .bind (.typeInfo t) fun _ => .pure _
theorem NM.sureAddr {P : Program} (v : Value) : NM P (Instr.sureAddr v) := by unfold Instr.sureAddr; split <;> first | exact .pure _ | exact .halt _
theorem NM.asIntOf {P : Program} (v : Value) : NM P (asIntOf v) := by unfold Go.asIntOf; split <;> first | exact .pure _ | exact .halt _
theorem NM.asBool {P : Program} (v : Value) : NM P (asBool v) := by unfold Go.asBool; split <;> first | exact .pure _ | exact .halt _
theorem NM.boundsPanic {α : Type} {P : Program} (k : IntKind) (x y : Int) (c : BoundsCode) : NM P (boundsPanic k x y c : Sem α) := by
  intro g g'
  unfold Go.boundsPanic runtimePanic
  cases h1 : (k != .u64 && 0 ≤ x && x ≤ 31) <;> simp only [h1] <;> rfl
theorem rd_sizeOf {P : Program} {t : TypeId} {h : Hp} {n : Nat} (hs : rd P (Go.sizeOf t) h = some n) : (P.info? t).map (·.size) = some n := by
  have : rd P (Go.sizeOf t) h = (P.info? t).map (·.size) := by
    simp only [Go.sizeOf, Go.typeInfo, Bind.bind, Sem.bind, Go.program, rd]
    cases P.info? t <;> rfl
  rw [← this]; exact hs
/-- Has the field a size? -/
def sized (P : Program) (s : TypeId) (f : Nat) : Bool :=
  match P.underlying s with
  | some (.struct fields) => match fields[f]? with
    | some fd => match P.info? fd.type with
      | some i => !(i.size == 0)
      | none => true
    | none => true
  | _ => true
theorem rd_underlying {P : Program} (t : TypeId) (h : Hp) : rd P (underlying t) h = P.underlying t := by
  simp only [Go.underlying, Bind.bind, Sem.bind, Go.program, rd]
  cases P.underlying t <;> rfl
theorem NM.bindU {α : Type} {P : Program} {t : TypeId} {f : TypeDesc → Sem α} (h : ∀ d, P.underlying t = some d → NM P (f d)) : NM P ((Go.underlying t).bind f) := by
  intro g g'
  rw [rd_bind, rd_bind, rd_underlying, rd_underlying]
  cases hu : P.underlying t with
  | none => rfl
  | some d => exact h d hu g g'
theorem NM.bindS {α : Type} {P : Program} {t : TypeId} {f : Nat → Sem α} (h : ∀ n, (P.info? t).map (·.size) = some n → NM P (f n)) : NM P ((Go.sizeOf t).bind f) := by
  intro g g'
  rw [rd_bind, rd_bind]
  have e : rd P (Go.sizeOf t) g = rd P (Go.sizeOf t) g' := NM.sizeOf t g g'
  rw [← e]
  cases hu : rd P (Go.sizeOf t) g with
  | none => rfl
  | some d => exact h d (rd_sizeOf hu) g g'
theorem NM.fieldAt {P : Program} (s : TypeId) (x : Value) (f : Nat) (hz : sized P s f = true) : NM P (Instr.fieldAt s x f) := by
  unfold Instr.fieldAt
  refine .bindU fun d hd => ?_
  unfold sized at hz
  rw [hd] at hz
  split
  · rename_i fields
    dsimp only at hz
    split
    · rename_i fd hf
      rw [hf] at hz
      dsimp only at hz
      refine .bind (.sureAddr x) fun a => .bind ?_ fun _ => .pure _
      refine .bindS fun n hn => ?_
      cases hi : P.info? fd.type with
      | none => rw [hi] at hn; cases hn
      | some i =>
        rw [hi] at hz hn
        dsimp only at hz
        simp only [Option.map_some, Option.some.injEq] at hn
        have hne : ¬ n = 0 := by rw [← hn]; simpa using hz
        rw [if_neg hne]
        exact .pure _
    · exact .halt _
  · exact .halt _
theorem NM.sNil {P : Program} (x : Value) : NM P (sNil x) := by
  unfold Go.H.sNil
  split
  · exact fun _ _ => rfl
  · exact fun _ _ => rfl
  · exact fun _ _ => rfl
  · exact .halt _
  · exact .pure _
theorem NM.sPick {P : Program} (c a b : Value) : NM P (sPick c a b) := .bind (.asBool c) fun _ => .pure _
theorem NM.makeInterface {P : Program} (t : TypeId) (x : Value) : NM P (Instr.makeInterface t x) := by
  unfold Instr.makeInterface
  refine .bind (.underlying t) fun d => ?_
  split <;> first | exact .pure _ | exact .halt _
theorem NM.extract {P : Program} (x : Value) (i : Nat) : NM P (Instr.extract x i) := by
  unfold Instr.extract
  split
  · split <;> first | exact .pure _ | exact .halt _
  · exact .halt _
theorem NM.bnd {α β : Type} {P : Program} {s : Sem α} {f : α → Sem β} (h : NM P s) (hf : ∀ a, NM P (f a)) : NM P (s >>= f) := NM.bind h hf
theorem NM.pur {α : Type} {P : Program} (a : α) : NM P (Pure.pure a : Sem α) := fun _ _ => rfl
theorem NM.stk {α : Type} {P : Program} (a : String) : NM P (stuck a : Sem α) := fun _ _ => rfl
theorem NM.uns {α : Type} {P : Program} (a : Unsupported) : NM P (unsupported a : Sem α) := fun _ _ => rfl
theorem NM.indexAt {P : Program} (t : TypeId) (x i : Value) : NM P (Instr.indexAt t x i) := by
  unfold Instr.indexAt
  refine .bind (.asIntOf i) fun ki => .bind (.underlying t) fun d => ?_
  dsimp only
  repeat' (first | with_reducible exact NM.pur _ | with_reducible exact NM.stk _ | with_reducible exact NM.uns _ | with_reducible exact NM.boundsPanic _ _ _ _ | with_reducible exact NM.sureAddr _ | with_reducible exact NM.underlying _ | with_reducible exact NM.sizeOf _ | with_reducible refine NM.bnd ?_ fun _ => ?_ | split)
theorem NM.sliceBound {P : Program} (x : Value) (y : Nat) (c : BoundsCode) : NM P (Instr.sliceBound x y c) := by
  unfold Instr.sliceBound
  refine .bind (.asIntOf x) fun ki => ?_
  obtain ⟨k, i⟩ := ki
  dsimp only
  split
  · exact .pure _
  · exact .boundsPanic _ _ _ _
theorem NM.sliceBounds {P : Program} (s : Bool) (n c : Nat) (a b d : Option Value) : NM P (Instr.sliceBounds s n c a b d) := by
  unfold Instr.sliceBounds
  cases a <;> cases b <;> cases d <;>
    (repeat' (first | exact .pure _ | exact .halt _ | exact .sliceBound _ _ _ | refine .bind ?_ fun _ => ?_))
theorem NM.asAddr {P : Program} (v : Value) : NM P (asAddr v) := by
  unfold Go.asAddr; split <;> first | exact .pure _ | exact .halt _ | exact fun _ _ => rfl
theorem NM.slice {P : Program} (t : TypeId) (x : Value) (a b d : Option Value) : NM P (Instr.slice t x a b d) := by
  unfold Instr.slice
  refine .bind (.underlying t) fun u => ?_
  split
  · split
    · exact .bind (.halt _) fun _ => .bind (.sliceBounds _ _ _ _ _ _) fun _ => .pure _
    · exact .bind (.sliceBounds _ _ _ _ _ _) fun _ => .pure _
  · exact .bind (.sliceBounds _ _ _ _ _ _) fun _ => .bind (.sizeOf _) fun _ => .pure _
  · refine .bind (.asAddr _) fun _ => .bind (.underlying _) fun u' => ?_
    split
    · exact .bind (.sliceBounds _ _ _ _ _ _) fun _ => .bind (.sizeOf _) fun _ => .pure _
    · exact .halt _
  · exact .halt _
theorem NM.sliceAt {P : Program} (t : TypeId) (x : Value) (a b d : Option Value) : NM P (Instr.sliceAt t x a b d) := by
  unfold Instr.sliceAt
  refine .bind (.underlying t) fun u => ?_
  split
  · exact .bind (.sureAddr _) fun _ => .bind (.sliceBounds _ _ _ _ _ _) fun _ => .bind (.sizeOf _) fun _ => .pure _
  · exact .slice _ _ _ _ _

/-- Does what it reads hang on the heap, or may it? -/
def memOp (P : Program) : Op → Bool
  | .fieldAddr s _ f => !sized P s f
  | .nilCheck _ | .pick .. | .extract .. | .makeInterface .. | .makeFunc .. | .indexAddr .. | .slice .. => false
  | _ => true
theorem memOp_NM {P : Program} {l : List Value} {o : Oper} {s : Sem Value} (hc : cls P l o = .ro s) (hm : memOp P o.op = false) : NM P s := by
  obtain ⟨dst, op, type, pos, after, guard⟩ := o
  cases op <;> simp only [memOp, Bool.not_eq_false', reduceCtorEq] at hm <;> simp only [cls, Cls.ro.injEq] at hc <;> subst hc
  case fieldAddr => exact .fieldAt _ _ _ hm
  case nilCheck => exact .sNil _
  case pick => exact .sPick _ _ _
  case extract => exact .extract _ _
  case makeInterface => exact .makeInterface _ _
  case makeFunc => exact .pure _
  case indexAddr => exact .indexAt _ _ _
  case slice => exact .sliceAt _ _ _ _ _


def regW (P : Program) (ops : Array Oper) : Plan → Held → List Value → Hp → (List Value → Hp → Prop) → Prop
  | .nil, _, l, h, K => K l h
  | .ro i p, held, l, h, K => match ops[i]? with
    | none => False
    | some o => guardW ops o l (fun l => match cls P l o with
      | .mv v => regW P ops p held (putL l o.dst v) h K
      | .ro s => roW P o l s h fun v => regW P ops p (match memOp P o.op with | true => (i, fun hh => rd P s hh = rd P s h) :: held | false => held) (putL l o.dst v) h K
      | .ef => False) (fun l => regW P ops p held (putL l o.dst undef) h K)
  | .ef i p q, held, l, h, K => match ops[i]? with
    | none => False
    | some o => match q with
      | .nil => guardW ops o l (fun l => opW P o l h fun v h' => stepEf (prune ops i held) h' (regW P ops p (prune ops i held) (putL l o.dst v) h' K)) (fun l => regW P ops p (prune ops i held) (putL l o.dst undef) h K)
      | _ => guardW ops o l (fun l => opW P o l h fun v h' => stepEf (prune ops i held) h' (regW P ops p (prune ops i held) (putL l o.dst v) h' K)) (fun l => regW P ops p (prune ops i held) (putL l o.dst undef) h K) ∧ regW P ops q held l h K

def heads : Plan → List Nat
  | .ef i _ q => i :: heads q
  | _ => []
def depth : Plan → Nat
  | .nil => 0
  | .ro _ p => depth p + 1
  | .ef _ p q => max (depth p + 1) (depth q)
/-- Does a plan serve? (top: at the begin of a step, not among its others) -/
def planOk (P : Program) (ops : Array Oper) : Bool → Plan → Array Bool → Bool
  | top, .nil, L => !top || (Region.ready .any ops L) == []
  | top, .ro i p, L => top && ((Region.ready .any ops L).contains i && (Region.free .any ops L i &&
      ((match ops[i]? with | some o => !efOp P o | none => false) && planOk P ops true p (L.setIfInBounds i true))))
  | top, .ef i p q, L => (!top || (Region.ready .any ops L) == heads (.ef i p q)) && ((match ops[i]? with | some o => efOp P o | none => false) &&
      (planOk P ops true p (L.setIfInBounds i true) && planOk P ops false q L))

end Go.H
