import Derived.Test.YtcolhmddhaabnaaDoorHrule
namespace Go.H
/-! ### append -/
def Only (t : Tag) : Tag → Prop := fun u => u = t
/-- What a type's row of the table says. -/
structure Elem (P : Program) (T e sz by_ : Nat) : Prop where
  und : P.underlying T = some (.slice e)
  info : ∃ i z, P.info? e = some i ∧ i.size = sz ∧ i.bytes = by_ ∧ i.zero = some z ∧ z.cells.size = sz
def elemOk (P : Program) (T e sz by_ : Nat) : Bool :=
  (match P.underlying T with | some (.slice e') => Nat.beq e' e | _ => false) &&
  (match P.info? e with
  | some i => Nat.beq i.size sz && (Nat.beq i.bytes by_ && match i.zero with | some z => Nat.beq z.cells.toList.length sz | none => false)
  | none => false)
theorem elem_of {P : Program} {T e sz by_ : Nat} (h : elemOk P T e sz by_ = true) : Elem P T e sz by_ := by
  unfold elemOk at h
  simp only [Bool.and_eq_true] at h
  obtain ⟨h1, h2⟩ := h
  constructor
  · split at h1
    · rename_i e' he; rw [he, Nat.eq_of_beq_eq_true h1]
    · cases h1
  · split at h2
    · rename_i i hi
      simp only [Bool.and_eq_true] at h2
      obtain ⟨a, b, c⟩ := h2
      split at c
      · rename_i z hz
        exact ⟨i, z, hi, Nat.eq_of_beq_eq_true a, Nat.eq_of_beq_eq_true b, hz, by simpa using Nat.eq_of_beq_eq_true c⟩
      · cases c
    · cases h2
/-- A source that can be read: cells of whatever owner. -/
def Src (h : Hp) (sz : Nat) (a : Option Addr) (n : Nat) (xs : List Value) : Prop :=
  xs.length = n * sz ∧ (n = 0 ∨ ∃ b off cs E fr, a = some ⟨b, off, none⟩ ∧ h b = some (.cells cs E fr) ∧ CellsAt cs off xs)
theorem Rc.src {o : Own} {h : Hp} {t : Tag} {sz : Nat} {a : Option Addr} {n c : Nat} {xs : List Value} (H : Rc o h t sz a n c xs) : Src h sz a n xs := by
  obtain ⟨h1, _, h3⟩ := H
  refine ⟨h1, ?_⟩
  rcases h3 with h3 | ⟨b, off, cs, E, fr, e1, _, e3, e4⟩
  · exact .inl h3
  · exact .inr ⟨b, off, cs, E, fr, e1, e3, e4⟩
theorem aw_first {P : Program} {h : Hp} {sz n c : Nat} {a : Option Addr} {xs : List Value} {K : Array Value → Hp → Prop} (hs : Src h sz a n xs) (H : K xs.toArray h) :
    aw P (Builtin.firstCells sz n (.slice a n c)) K h := by
  obtain ⟨h1, h2⟩ := hs
  rcases h2 with h2 | ⟨b, off, cs, E, fr, rfl, hb, hc⟩
  · subst h2
    have : xs = [] := by simpa using h1
    subst this
    cases a with
    | none => simpa [Builtin.firstCells, aw, Pure.pure] using H
    | some ad => simpa [Builtin.firstCells, loadCells, loadCellsFrom, aw, Pure.pure] using H
  · simp only [Builtin.firstCells]
    rw [← h1]
    exact aw_loadCells hb hc H

theorem aw_pure {α : Type} {P : Program} {a : α} {K : α → Hp → Prop} {h : Hp} (H : K a h) : aw P (Pure.pure a : Sem α) K h := H
theorem aw_room {P : Program} {n : Nat} {K : Unit → Hp → Prop} {h : Hp} (H : K () h) : aw P (askRoom n) K h := by
  unfold askRoom
  split
  · exact H
  · exact H
theorem append_own {P : Program} {T e sz by_ : Nat} {fl : Array Bool} {o : Own} {h : Hp} {t : Tag} {a b : Option Addr} {n c m d : Nat} {xs ys : List Value} {K : Value → Hp → Prop}
    (hE : Elem P T e sz by_) (hx : Oc o h t sz a n c xs) (hy : Src h sz b m ys) (hp : ∀ y ∈ ys, flatV y = true)
    (hbound : (2 * (n + m) + 512) * by_ ≤ 281474976710656) (hlen : n + m ≤ 9223372036854775807)
    (H : ∀ a' c' o' h', Oc o' h' t sz a' (n + m) c' (xs ++ ys) → Step (Only t) o h o' h' → (c = 0 → Step (fun _ => False) o h o' h') → K (.slice a' (n + m) c') h') :
    oNx P (builtin .append #[T, T] T fl #[.slice a n c, .slice b m d]) h K := by
  obtain ⟨hu, i, z, hi, his, hib, hiz, hzs⟩ := hE
  obtain ⟨hx1, hx2, hx3⟩ := id hx
  have hy1 := hy.1
  refine aw_vs ?_
  unfold Builtin.append_
  simp only [List.getElem?_toArray, List.getElem?_cons_zero, List.getElem?_cons_succ]
  refine aw_bind' (aw_und hu ?_)
  dsimp only
  refine aw_bind' (aw_size hi ?_)
  rw [sizeB_eq hi, his]
  refine aw_bind' (aw_und hu ?_)
  refine aw_bind' (aw_pure ?_)
  dsimp only
  rw [if_neg (by simp)]
  refine aw_bind' (aw_pure ?_)
  by_cases hcap : n + m ≤ c
  · -- there is room
    rw [if_pos hcap]
    refine aw_bind' (aw_first hy ?_)
    by_cases hc0 : c = 0
    · have hm : m = 0 := by omega
      have hn : n = 0 := by omega
      subst hm hn hc0
      have hys : ys = [] := by simpa using hy1
      have hxs : xs = [] := by simpa using hx1
      subst hys hxs
      have fin : K (.slice a (0 + 0) 0) h := H a 0 o h (Oc.nil a) (.refl _ _ _) (fun _ => .refl _ _ _)
      cases a with
      | none => exact fin
      | some ad =>
        refine aw_bind' ?_
        simp only [storeCells, aw, Pure.pure]
        exact fin
    · obtain ⟨bk, off, cs, E, fr, rfl, hob, hhb, hca, hsz, hloose⟩ := hx3.resolve_left hc0
      refine aw_bind' ?_
      have hle : off + n * sz + ys.length ≤ cs.size := by
        rw [hy1]
        have : (n + m) * sz ≤ c * sz := Nat.mul_le_mul_right _ hcap
        rw [Nat.add_mul] at this
        omega
      rw [add_at]
      refine aw_storeCells ys h cs (off + n * sz) 0 hhb hloose hp (by omega) ?_
      intro h' h1 h2
      simp only [Nat.add_zero] at h2
      refine aw_pure ?_
      have hO : Oc o h' t sz (some ⟨bk, off, none⟩) (n + m) c (xs ++ ys) := by
        refine ⟨by rw [List.length_append, hx1, hy1, Nat.add_mul], hcap, .inr ⟨bk, off, _, E, fr, rfl, hob, h2, ?_, by rw [laid_size]; exact hsz, hloose.laid⟩⟩
        intro k x hk
        rw [laid_get _ _ _ _ hle]
        by_cases hkn : k < xs.length
        · rw [List.getElem?_append_left hkn] at hk
          rw [if_neg (by omega)]
          exact hca k x hk
        · rw [List.getElem?_append_right (by omega)] at hk
          have hlt : k - xs.length < ys.length := (List.getElem?_eq_some_iff.1 hk).1
          rw [if_pos (by omega), ← hk]
          congr 1
          omega
      refine H _ c o h' hO ?_ (fun h0 => absurd h0 hc0)
      have hstep : Step (Only t) o h o (h.set bk (.cells (laid cs (off + n * sz) ys) E fr)) := Step.put _ hob
      have heq : h' = h.set bk (.cells (laid cs (off + n * sz) ys) E fr) := by
        funext k
        by_cases hk : k = bk
        · subst hk; rw [h2]; simp
        · rw [h1 k hk, Hp.set_ne h _ hk]
      rw [heq]; exact hstep
  · rw [if_neg hcap]
    have hg : ∀ (r q : Nat), Builtin.growBy (n + m) r q ≤ max q (2 * (n + m) + 512) := by
      intro r
      induction r with
      | zero => intro q; simp only [Builtin.growBy]; omega
      | succ r ih =>
        intro q
        simp only [Builtin.growBy]
        split
        · omega
        · refine Nat.le_trans (ih _) ?_
          omega
    have hcapB : Builtin.nextslicecap (n + m) c ≤ 2 * (n + m) + 512 := by
      unfold Builtin.nextslicecap
      split
      · omega
      · split
        · omega
        · have := hg 4 c; omega
    refine aw_bind' (aw_info hi ?_)
    have hM : IntKind.i64.max = 9223372036854775807 := rfl
    rw [if_neg (by rw [hM]; intro hh; have := hh.1; omega)]
    refine aw_bind' (aw_info hi ?_)
    have hfit : Builtin.nextslicecap (n + m) c * i.bytes ≤ 281474976710656 := by
      rw [hib]; exact Nat.le_trans (Nat.mul_le_mul_right _ hcapB) hbound
    rw [if_neg (by have e : (2 ^ 48 : Nat) = 281474976710656 := by decide
                   rw [e]; omega)]
    refine aw_bind' ?_
    intro tape
    refine aw_pure ?_
    generalize hcut : (Question.appendCap (n + m) c e).cut tape = newCap
    have hge : n + m ≤ newCap := by rw [← hcut]; simp only [Question.cut]; omega
    refine aw_bind' (aw_info hi ?_)
    refine aw_bind' (aw_room ?_)
    refine aw_bind' (aw_first hx.read.src ?_)
    refine aw_bind' (aw_first hy ?_)
    refine aw_bind' ?_
    unfold zeroValue
    refine aw_bind' (aw_info hi ?_)
    simp only [hiz]
    refine aw_pure ?_
    refine aw_bind' ?_
    intro r hr
    refine aw_pure (aw_pure ?_)
    have hne : ∀ b, h b ≠ none → b ≠ r := fun b hb e => hb (e ▸ hr)
    refine H _ newCap (o.set r t) _ ⟨by rw [List.length_append, hx1, hy1, Nat.add_mul], hge, .inr ⟨r, 0, _, e, (0, 0), rfl, Own.set_same _ _ _, Hp.set_same _ _ _, ?_, ?_, Loose.zero _⟩⟩ (Step.new _ _ hr) (fun _ => Step.new _ _ hr)
    · intro k x hk
      have hlt := (List.getElem?_eq_some_iff.1 hk).1
      rw [Nat.zero_add, Array.getElem?_append_left (by simpa using hlt)]
      simpa using hk
    · simp only [Array.size_append, List.size_toArray, Builtin.zeroCells, Array.size_map, Array.size_range, hzs, hx1, hy1]
      have : newCap * sz = n * sz + m * sz + (newCap - (n + m)) * sz := by
        rw [← Nat.add_mul, ← Nat.add_mul]; congr 1; omega
      omega
end Go.H
