import Derived.OrdersHeld
import Derived.KernelRfl
namespace Go.H

/-! The heap alone: what stands in each block. -/
abbrev Hp := Nat → Option Obj
def hp (w : World) : Hp := fun b => w.heap[b]?
def Hp.set (h : Hp) (b : Nat) (o : Obj) : Hp := fun x => if x = b then some o else h x
def cell (h : Hp) (a : Addr) : Option Value :=
  match h a.block with
  | some (.cells c _ _) => if a.spot.isSome then none else c[a.off]?
  | _ => none
def shapeH (h : Hp) (r : Nat) : Option (TypeId × Nat) :=
  match h r with
  | some (.cells c elem _) => some (elem, c.size)
  | _ => none
def frozenH (h : Hp) (a : Addr) : Bool :=
  match h a.block with
  | some (.cells _ _ (lo, hi)) => lo ≤ a.off && a.off < hi
  | _ => false
def flatV : Value → Bool
  | .agg _ | .tuple _ => false
  | _ => true

structure Same (w w' : World) : Prop where
  os : w'.os = w.os
  output : w'.output = w.output
theorem Same.refl (w : World) : Same w w := ⟨rfl, rfl⟩
theorem Same.trans {a b c : World} (h : Same a b) (h' : Same b c) : Same a c := ⟨h'.os.trans h.os, h'.output.trans h.output⟩

theorem cell_hp (w : World) (a : Addr) : cell (hp w) a = w.cell? a := rfl
theorem shapeH_hp (w : World) (r : Nat) : shapeH (hp w) r = w.shape? r := rfl
theorem frozenH_hp (w : World) (a : Addr) : frozenH (hp w) a = w.frozen? a := rfl

/-- What a computation reads, if it only reads. -/
def rd {α : Type} (P : Program) : Sem α → Hp → Option α
  | .pure a, _ => some a
  | .load _ a k, h => match cell h a with
    | some v => rd P (k v) h
    | none => none
  | .shape r k, h => rd P (k (shapeH h r)) h
  | .frozen a k, h => rd P (k (frozenH h a)) h
  | .getObj r k, h => match h r with
    | some (.cells ..) => none
    | some o => rd P (k o) h
    | none => none
  | .program k, h => rd P (k P) h
  | .mark _ k, h => rd P k h
  | _, _ => none

/-- The weakest precondition of a computation over heaps: whatever is drawn, whichever block is new. -/
def aw {α : Type} (P : Program) : Sem α → (α → Hp → Prop) → Hp → Prop
  | .pure a, K, h => K a h
  | .load _ a k, K, h => match cell h a with
    | some v => aw P (k v) K h
    | none => False
  | .store _ a v k, K, h => match h a.block with
    | some (.cells c e fr) => flatV v = true ∧ a.spot = none ∧ a.off < c.size ∧ frozenH h a = false ∧ aw P k K (h.set a.block (.cells (c.setIfInBounds a.off v) e fr))
    | _ => False
  | .new o k, K, h => ∀ r, h r = none → aw P (k r) K (h.set r o)
  | .shape r k, K, h => aw P (k (shapeH h r)) K h
  | .freeze a n k, K, h => match h a.block with
    | some (.cells c e fr) => aw P k K (if n = 0 then h else h.set a.block (.cells c e (if fr.1 == fr.2 then (a.off, a.off + n) else (min fr.1 a.off, max fr.2 (a.off + n)))))
    | _ => False
  | .frozen a k, K, h => aw P (k (frozenH h a)) K h
  | .getObj r k, K, h => match h r with
    | some (.cells ..) => False
    | some o => aw P (k o) K h
    | none => False
  | .setObj r o k, K, h => match h r with
    | some (.cells ..) => False
    | some _ => aw P k K (h.set r o)
    | none => False
  | .choose q k, K, h => match q.forced with
    | true => aw P (k 0) K h
    | false => ∀ t, aw P (k (q.cut t)) K h
  | .sys .., _, _ => False
  | .program k, K, h => aw P (k P) K h
  | .mark _ k, K, h => aw P k K h
  | .halt _, _, _ => False

theorem rd_sound {α : Type} (P : Program) (s : Sem α) : ∀ (w : World) (a : α), rd P s (hp w) = some a → s.run P w = .ok a w := by
  induction s with
  | pure b => intro w a h; simp only [rd, Option.some.injEq] at h; subst h; rfl
  | load m ad k ih =>
    intro w a h
    simp only [rd] at h
    simp only [Sem.run, ← cell_hp]
    cases hc : cell (hp w) ad with
    | none => simp [hc] at h
    | some v => simp only [hc] at h ⊢; exact ih v w a h
  | shape r k ih => intro w a h; exact ih _ w a h
  | frozen r k ih => intro w a h; exact ih _ w a h
  | getObj r k ih =>
    intro w a h
    simp only [rd, hp] at h
    simp only [Sem.run]
    split at h
    · cases h
    · rename_i o hno hr
      rw [hr]
      split
      · rename_i c e f heq; cases heq; exact absurd rfl (hno _ _ _)
      · rename_i o' _ heq; cases heq; exact ih o w a h
      · rename_i heq; cases heq
    · cases h
  | program k ih => intro w a h; exact ih P w a h
  | mark m k ih => intro w a h; exact ih w a h
  | store => intro w a h; simp [rd] at h
  | new => intro w a h; simp [rd] at h
  | freeze => intro w a h; simp [rd] at h
  | setObj => intro w a h; simp [rd] at h
  | choose => intro w a h; simp [rd] at h
  | sys => intro w a h; simp [rd] at h
  | halt => intro w a h; simp [rd] at h

theorem hp_push (w : World) (o : Obj) : hp { w with heap := w.heap.push o } = (hp w).set w.heap.size o := by
  funext b
  simp only [hp, Hp.set, Array.getElem?_push]

theorem hp_setCell (w : World) (a : Addr) (v : Value) (c : Array Value) (e : TypeId) (fr : Nat × Nat) (hs : a.spot = none)
    (hb : hp w a.block = some (.cells c e fr)) : hp (w.setCell a v) = (hp w).set a.block (.cells (c.setIfInBounds a.off v) e fr) := by
  funext b
  simp only [hp, World.setCell, Hp.set, Array.getElem?_modify]
  simp only [hp] at hb
  by_cases hab : b = a.block
  · subst hab; simp [hb, hs]
  · have hab' : ¬ a.block = b := fun h => hab h.symm
    simp [hab, hab']

theorem hp_setObj (w : World) (r : Nat) (o x : Obj) (hb : hp w r = some x) : hp { w with heap := w.heap.setIfInBounds r o } = (hp w).set r o := by
  funext b
  simp only [hp, Hp.set, Array.getElem?_setIfInBounds]
  simp only [hp] at hb
  have hlt : r < w.heap.size := (Array.getElem?_eq_some_iff.1 hb).1
  by_cases hab : b = r
  · subst hab; simp [hlt]
  · have hab' : ¬ r = b := fun h => hab h.symm
    simp [hab, hab']

theorem hp_freeze (w : World) (a : Addr) (n : Nat) (c : Array Value) (e : TypeId) (fr : Nat × Nat) (hb : hp w a.block = some (.cells c e fr)) :
    hp (w.freeze a n) = if n = 0 then hp w else (hp w).set a.block (.cells c e (if fr.1 == fr.2 then (a.off, a.off + n) else (min fr.1 a.off, max fr.2 (a.off + n)))) := by
  by_cases hn : n = 0
  · simp [World.freeze, hn]
  · funext b
    simp only [World.freeze, hn, if_false, hp, Hp.set, Array.getElem?_modify]
    simp only [hp] at hb
    by_cases hab : b = a.block
    · subst hab; simp [hb]
    · have hab' : ¬ a.block = b := fun h => hab h.symm
      simp [hab, hab']

theorem aw_sound {α : Type} (P : Program) (s : Sem α) : ∀ (K : α → Hp → Prop) (w : World), aw P s K (hp w) →
    ∃ a w', s.run P w = .ok a w' ∧ K a (hp w') ∧ Same w w' := by
  induction s with
  | pure b => intro K w h; exact ⟨b, w, rfl, h, .refl w⟩
  | load m ad k ih =>
    intro K w h
    simp only [aw] at h
    simp only [Sem.run, ← cell_hp]
    cases hc : cell (hp w) ad with
    | none => simp [hc] at h
    | some v => simp only [hc] at h ⊢; exact ih v K w h
  | store m ad v k ih =>
    intro K w h
    simp only [aw] at h
    split at h
    · rename_i c e fr hb
      obtain ⟨hv, hs, hlt, hf, h⟩ := h
      rw [← hp_setCell w ad v c e fr hs hb] at h
      obtain ⟨a, w', hr, hK, hS⟩ := ih K _ h
      refine ⟨a, w', ?_, hK, ⟨hS.os, hS.output⟩⟩
      have hcell : w.cell? ad = some c[ad.off] := by
        simp only [hp] at hb
        simp [World.cell?, hb, hs, hlt]
      rw [frozenH_hp] at hf
      cases v <;> first
        | (simp only [Sem.run, hcell, hf]; exact hr)
        | (simp [flatV] at hv)
    · exact h.elim
  | new o k ih =>
    intro K w h
    have h1 := h w.heap.size (by simp [hp])
    rw [← hp_push] at h1
    obtain ⟨a, w', hr, hK, hS⟩ := ih w.heap.size K _ h1
    exact ⟨a, w', hr, hK, ⟨hS.os, hS.output⟩⟩
  | shape r k ih => intro K w h; exact ih _ K w h
  | freeze ad n k ih =>
    intro K w h
    simp only [aw] at h
    split at h
    · rename_i c e fr hb
      rw [← hp_freeze w ad n c e fr hb] at h
      obtain ⟨a, w', hr, hK, hS⟩ := ih K _ h
      refine ⟨a, w', hr, hK, ?_⟩
      by_cases hn : n = 0
      · simp only [World.freeze, hn, if_true] at hS; exact hS
      · simp only [World.freeze, hn, if_false] at hS; exact ⟨hS.os, hS.output⟩
    · exact h.elim
  | frozen r k ih => intro K w h; exact ih _ K w h
  | getObj r k ih =>
    intro K w h
    simp only [aw, hp] at h
    simp only [Sem.run]
    split at h
    · cases h
    · rename_i o hno hr
      rw [hr]
      split
      · rename_i c e f heq; cases heq; exact absurd rfl (hno _ _ _)
      · rename_i o' _ heq; cases heq; exact ih o K w h
      · rename_i heq; cases heq
    · cases h
  | setObj r o k ih =>
    intro K w h
    simp only [aw] at h
    split at h
    · cases h
    · rename_i x hno hr
      rw [← hp_setObj w r o x hr] at h
      obtain ⟨a, w', hr', hK, hS⟩ := ih K _ h
      refine ⟨a, w', ?_, hK, ⟨hS.os, hS.output⟩⟩
      simp only [hp] at hr
      simp only [Sem.run, hr]
      exact hr'
    · cases h
  | choose q k ih =>
    intro K w h
    simp only [aw] at h
    simp only [Sem.run]
    split at h
    · rename_i hq; simp only [hq, if_true]; exact ih 0 K w h
    · rename_i hq
      simp only [hq, Bool.false_eq_true, if_false]
      obtain ⟨a, w', hr, hK, hS⟩ := ih _ K { w with drawn := w.drawn + 1 } (h (w.tape w.drawn q))
      exact ⟨a, w', hr, hK, ⟨hS.os, hS.output⟩⟩
  | sys => intro K w h; exact h.elim
  | program k ih => intro K w h; exact ih P K w h
  | mark m k ih => intro K w h; exact ih K w h
  | halt => intro K w h; exact h.elim

theorem aw_mono {α : Type} {P : Program} {s : Sem α} : ∀ {K K' : α → Hp → Prop} {h : Hp}, (∀ a h', K a h' → K' a h') → aw P s K h → aw P s K' h := by
  induction s with
  | pure b => intro K K' h hk; exact hk _ _
  | load m ad k ih =>
    intro K K' h hk
    simp only [aw]
    split
    · exact ih _ hk
    · exact id
  | store m ad v k ih =>
    intro K K' h hk
    simp only [aw]
    split
    · exact fun ⟨a, b, c, d, e⟩ => ⟨a, b, c, d, ih hk e⟩
    · exact id
  | new o k ih => intro K K' h hk H r hr; exact ih _ hk (H r hr)
  | shape r k ih => intro K K' h hk; exact ih _ hk
  | freeze ad n k ih =>
    intro K K' h hk
    simp only [aw]
    split
    · exact ih hk
    · exact id
  | frozen r k ih => intro K K' h hk; exact ih _ hk
  | getObj r k ih =>
    intro K K' h hk
    simp only [aw]
    split <;> first | exact id | exact ih _ hk
  | setObj r o k ih =>
    intro K K' h hk
    simp only [aw]
    split <;> first | exact id | exact ih hk
  | choose q k ih =>
    intro K K' h hk
    simp only [aw]
    split
    · exact ih _ hk
    · exact fun H t => ih _ hk (H t)
  | sys => intro K K' h hk H; exact H
  | program k ih => intro K K' h hk; exact ih P hk
  | mark m k ih => intro K K' h hk; exact ih hk
  | halt => intro K K' h hk H; exact H

theorem rd_bind {α β : Type} (P : Program) (s : Sem α) (f : α → Sem β) : ∀ h, rd P (s.bind f) h = (rd P s h).bind fun a => rd P (f a) h := by
  induction s with
  | pure b => intro h; rfl
  | load m ad k ih =>
    intro h
    simp only [Sem.bind, rd]
    split
    · exact ih _ h
    · rfl
  | shape r k ih => intro h; exact ih _ h
  | frozen r k ih => intro h; exact ih _ h
  | getObj r k ih =>
    intro h
    simp only [Sem.bind, rd]
    split <;> first | rfl | exact ih _ h
  | program k ih => intro h; exact ih P h
  | mark m k ih => intro h; exact ih h
  | store => intro h; rfl
  | new => intro h; rfl
  | freeze => intro h; rfl
  | setObj => intro h; rfl
  | choose => intro h; rfl
  | sys => intro h; rfl
  | halt => intro h; rfl

theorem aw_bind {α β : Type} (P : Program) (s : Sem α) (f : α → Sem β) (K : β → Hp → Prop) : ∀ h, aw P (s.bind f) K h ↔ aw P s (fun a h => aw P (f a) K h) h := by
  induction s with
  | pure b => intro h; exact Iff.rfl
  | load m ad k ih =>
    intro h
    simp only [Sem.bind, aw]
    split
    · exact ih _ h
    · exact Iff.rfl
  | store m ad v k ih =>
    intro h
    simp only [Sem.bind, aw]
    split
    · rw [ih]
    · exact Iff.rfl
  | new o k ih => intro h; simp only [Sem.bind, aw]; exact forall_congr' fun r => forall_congr' fun _ => ih r _
  | shape r k ih => intro h; exact ih _ h
  | freeze ad n k ih =>
    intro h
    simp only [Sem.bind, aw]
    split
    · exact ih _
    · exact Iff.rfl
  | frozen r k ih => intro h; exact ih _ h
  | getObj r k ih =>
    intro h
    simp only [Sem.bind, aw]
    split <;> first | exact Iff.rfl | exact ih _ h
  | setObj r o k ih =>
    intro h
    simp only [Sem.bind, aw]
    split <;> first | exact Iff.rfl | exact ih _
  | choose q k ih =>
    intro h
    simp only [Sem.bind, aw]
    split
    · exact ih _ h
    · exact forall_congr' fun t => ih _ h
  | sys => intro h; exact Iff.rfl
  | program k ih => intro h; exact ih P h
  | mark m k ih => intro h; exact ih h
  | halt => intro h; exact Iff.rfl

/-- What only reads, reads the same wherever it is read. -/
theorem aw_of_rd {α : Type} (P : Program) (s : Sem α) (K : α → Hp → Prop) : ∀ (h : Hp) (a : α), rd P s h = some a → K a h → aw P s K h := by
  induction s with
  | pure b => intro h a e hk; simp only [rd, Option.some.injEq] at e; subst e; exact hk
  | load m ad k ih =>
    intro h a e hk
    simp only [rd] at e
    simp only [aw]
    cases hc : cell h ad with
    | none => simp [hc] at e
    | some v => simp only [hc] at e ⊢; exact ih v h a e hk
  | shape r k ih => intro h a e hk; exact ih _ h a e hk
  | frozen r k ih => intro h a e hk; exact ih _ h a e hk
  | getObj r k ih =>
    intro h a e hk
    simp only [rd] at e
    simp only [aw]
    split at e
    · cases e
    · rename_i o hno hr
      exact ih o h a e hk
    · cases e
  | program k ih => intro h a e hk; exact ih P h a e hk
  | mark m k ih => intro h a e hk; exact ih h a e hk
  | store => intro h a e; simp [rd] at e
  | new => intro h a e; simp [rd] at e
  | freeze => intro h a e; simp [rd] at e
  | setObj => intro h a e; simp [rd] at e
  | choose => intro h a e; simp [rd] at e
  | sys => intro h a e; simp [rd] at e
  | halt => intro h a e; simp [rd] at e

end Go.H
