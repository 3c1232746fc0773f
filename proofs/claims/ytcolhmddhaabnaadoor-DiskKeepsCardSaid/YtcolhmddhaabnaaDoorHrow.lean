import Derived.Test.YtcolhmddhaabnaaDoorHzero
namespace Go.H
/-- A list's cells, each element's by R, sz cells each. -/
def RowsOf {α : Type} (sz : Nat) (R : α → List Value → Prop) : List α → List Value → Prop
  | [], xs => xs = []
  | x :: l, xs => ∃ c r, xs = c ++ r ∧ c.length = sz ∧ R x c ∧ RowsOf sz R l r
theorem RowsOf.length {α : Type} {sz : Nat} {R : α → List Value → Prop} : ∀ {l : List α} {xs : List Value}, RowsOf sz R l xs → xs.length = l.length * sz
  | [], _, h => by rw [h]; simp
  | x :: l, _, ⟨c, r, e, hc, _, hr⟩ => by rw [e, List.length_append, hc, hr.length, List.length_cons, Nat.succ_mul]; omega
theorem RowsOf.mono {α : Type} {sz : Nat} {R R' : α → List Value → Prop} : ∀ {l : List α} {xs : List Value}, RowsOf sz R l xs → (∀ x c, x ∈ l → R x c → R' x c) → RowsOf sz R' l xs
  | [], _, h, _ => h
  | x :: l, _, ⟨c, r, e, hc, h, hr⟩, hm => ⟨c, r, e, hc, hm x c (List.mem_cons_self ..) h, hr.mono fun y c hy => hm y c (List.mem_cons_of_mem _ hy)⟩
theorem RowsOf.append {α : Type} {sz : Nat} {R : α → List Value → Prop} : ∀ {l l' : List α} {xs ys : List Value}, RowsOf sz R l xs → RowsOf sz R l' ys → RowsOf sz R (l ++ l') (xs ++ ys)
  | [], _, _, _, h, h' => by rw [h]; exact h'
  | x :: l, _, _, _, ⟨c, r, e, hc, h, hr⟩, h' => ⟨c, r ++ _, by rw [e, List.append_assoc], hc, h, hr.append h'⟩
theorem RowsOf.one {α : Type} {sz : Nat} {R : α → List Value → Prop} {x : α} {c : List Value} (h : R x c) (hc : c.length = sz) : RowsOf sz R [x] c := ⟨c, [], by simp, hc, h, rfl⟩
theorem RowsOf.get {α : Type} {sz : Nat} {R : α → List Value → Prop} : ∀ {l : List α} {xs : List Value} {i : Nat} {x : α}, RowsOf sz R l xs → l[i]? = some x →
    ∃ c, c.length = sz ∧ R x c ∧ ∀ j v, c[j]? = some v → xs[i * sz + j]? = some v
  | [], _, i, x, _, hi => by simp at hi
  | y :: l, _, 0, x, ⟨c, r, e, hc, h, _⟩, hi => by
    simp only [List.getElem?_cons_zero, Option.some.injEq] at hi
    subst hi
    refine ⟨c, hc, h, fun j v hj => ?_⟩
    have := (List.getElem?_eq_some_iff.1 hj).1
    rw [e, Nat.zero_mul, Nat.zero_add, List.getElem?_append_left this]; exact hj
  | y :: l, _, i + 1, x, ⟨c, r, e, hc, _, hr⟩, hi => by
    obtain ⟨c', h1, h2, h3⟩ := hr.get (i := i) (by simpa using hi)
    refine ⟨c', h1, h2, fun j v hj => ?_⟩
    rw [e, List.getElem?_append_right (by rw [hc, Nat.succ_mul]; omega), hc, ← h3 j v hj]
    congr 1; rw [Nat.succ_mul]; omega
theorem RowsOf.take {α : Type} {sz : Nat} {R : α → List Value → Prop} : ∀ {l : List α} {xs : List Value} (n : Nat), RowsOf sz R l xs → RowsOf sz R (l.take n) (xs.take (n * sz))
  | [], _, n, h => by rw [h]; simp [RowsOf]
  | x :: l, _, 0, h => by simp [RowsOf]
  | x :: l, _, n + 1, ⟨c, r, e, hc, h, hr⟩ => by
    refine ⟨c, r.take (n * sz), ?_, hc, h, hr.take n⟩
    rw [e, show (n + 1) * sz = c.length + n * sz by rw [hc, Nat.succ_mul]; omega, List.take_length_add_append]
theorem RowsOf.drop {α : Type} {sz : Nat} {R : α → List Value → Prop} : ∀ {l : List α} {xs : List Value} (n : Nat), RowsOf sz R l xs → RowsOf sz R (l.drop n) (xs.drop (n * sz))
  | [], _, n, h => by rw [h]; simp [RowsOf]
  | x :: l, _, 0, h => by simpa using h
  | x :: l, _, n + 1, ⟨c, r, e, hc, h, hr⟩ => by
    rw [e, show (n + 1) * sz = c.length + n * sz by rw [hc, Nat.succ_mul]; omega, List.drop_length_add_append]
    exact hr.drop n
/-- A cell of what can be read. -/
theorem Rc.at {o : Own} {h : Hp} {t : Tag} {sz : Nat} {a : Option Addr} {n c : Nat} {xs : List Value} (H : Rc o h t sz a n c xs) (hn : 0 < n) :
    ∃ b off cs E fr, a = some ⟨b, off, none⟩ ∧ o b = t ∧ h b = some (.cells cs E fr) ∧ CellsAt cs off xs := by
  rcases H.2.2 with h0 | h0
  · omega
  · exact h0
end Go.H
namespace Go.H
/-- One row of what can be read. -/
theorem Rc.row {α : Type} {R : α → List Value → Prop} {o : Own} {h : Hp} {t : Tag} {sz : Nat} {a : Option Addr} {n c : Nat} {xs : List Value} {l : List α} {i : Nat} {x : α} (H : Rc o h t sz a n c xs) (hr : RowsOf sz R l xs) (hi : l[i]? = some x) (hz : 0 < sz) :
    ∃ b off cs E fr cl, a = some ⟨b, off, none⟩ ∧ o b = t ∧ h b = some (.cells cs E fr) ∧ cl.length = sz ∧ R x cl ∧ ∀ j v, cl[j]? = some v → cs[off + i * sz + j]? = some v := by
  have hl := hr.length
  have h1 := H.1
  have h2 : n * sz = l.length * sz := by omega
  have h3 : n = l.length := Nat.eq_of_mul_eq_mul_right hz h2
  have h4 := (List.getElem?_eq_some_iff.1 hi).1
  obtain ⟨b, off, cs, E, fr, e1, e2, e3, e4⟩ := H.at (by omega)
  obtain ⟨cl, f1, f2, f3⟩ := hr.get hi
  exact ⟨b, off, cs, E, fr, cl, e1, e2, e3, f1, f2, fun j v hj => by rw [Nat.add_assoc]; exact e4 _ _ (f3 j v hj)⟩
theorem RowsOf.count {α : Type} {R : α → List Value → Prop} {o : Own} {h : Hp} {t : Tag} {sz : Nat} {a : Option Addr} {n c : Nat} {xs : List Value} {l : List α} (hr : RowsOf sz R l xs) (H : Rc o h t sz a n c xs) (hz : 0 < sz) : n = l.length := by
  have hl := hr.length
  have h1 := H.1
  exact Nat.eq_of_mul_eq_mul_right hz (by omega)
end Go.H
