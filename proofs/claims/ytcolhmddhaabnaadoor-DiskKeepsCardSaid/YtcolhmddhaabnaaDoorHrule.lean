import Derived.Test.YtcolhmddhaabnaaDoorHfun
namespace Go.H
/-! ### Rules for the words of the printed conditions -/
@[simp] theorem Hp.set_same (h : Hp) (b : Nat) (o : Obj) : (h.set b o) b = some o := by simp [Hp.set]
theorem Hp.set_ne (h : Hp) {b c : Nat} (o : Obj) (hne : c ≠ b) : (h.set b o) c = h c := by simp [Hp.set, hne]
@[simp] theorem kEq_refl (k : IntKind) : kEq k k = true := by cases k <;> rfl
theorem asIn_i {k : IntKind} {n : Int} {K : Int → Prop} (H : K n) : asIn k (.int k n) K := by
  unfold asIn; simp only [kEq_refl]; exact H
section
variable {h : Hp} {b o : Nat} {cs : Array Value} {E : TypeId} {fr : Nat × Nat}
theorem ld_v {v : Value} {K : Value → Prop} (hb : h b = some (.cells cs E fr)) (hv : cs[o]? = some v) (H : K v) : ld h ⟨b, o, none⟩ K := by
  unfold ld cell; simp only [hb, hv]; exact H
theorem ld_i {k : IntKind} {n : Int} {K : Int → Prop} (hb : h b = some (.cells cs E fr)) (hv : cs[o]? = some (.int k n)) (H : K n) : ld h ⟨b, o, none⟩ fun v => asIn k v K :=
  ld_v hb hv (asIn_i H)
theorem ld_b {n : Bool} {K : Bool → Prop} (hb : h b = some (.cells cs E fr)) (hv : cs[o]? = some (.bool n)) (H : K n) : ld h ⟨b, o, none⟩ fun v => asBo v K :=
  ld_v hb hv H
theorem ld_s {n : ByteArray} {K : ByteArray → Prop} (hb : h b = some (.cells cs E fr)) (hv : cs[o]? = some (.string n)) (H : K n) : ld h ⟨b, o, none⟩ fun v => asStr v K :=
  ld_v hb hv H
theorem ld_p {n : Option Addr} {K : Option Addr → Prop} (hb : h b = some (.cells cs E fr)) (hv : cs[o]? = some (.pointer n)) (H : K n) : ld h ⟨b, o, none⟩ fun v => asPt v K :=
  ld_v hb hv H
theorem ld_l {a : Option Addr} {n c : Nat} {K : Option Addr → Nat → Nat → Prop} (hb : h b = some (.cells cs E fr)) (hv : cs[o]? = some (.slice a n c)) (H : K a n c) : ld h ⟨b, o, none⟩ fun v => asSl v K :=
  ld_v hb hv H
/-- No write to what a string shares, within the cells. -/
def Loose (cs : Array Value) (fr : Nat × Nat) : Prop := ∀ i, i < cs.size → (decide (fr.1 ≤ i) && decide (i < fr.2)) = false
theorem Loose.zero (cs : Array Value) : Loose cs (0, 0) := fun i _ => by simp
theorem Loose.set {cs : Array Value} {fr : Nat × Nat} (h : Loose cs fr) (i : Nat) (v : Value) : Loose (cs.setIfInBounds i v) fr := fun j hj => h j (by simpa using hj)
theorem st_v {v : Value} {K : Hp → Prop} (hb : h b = some (.cells cs E fr)) (hl : Loose cs fr) (hv : flatV v = true) (ho : o < cs.size)
    (H : K (h.set b (.cells (cs.setIfInBounds o v) E fr))) : st h ⟨b, o, none⟩ v K := by
  unfold st pl
  simp only [hv, hb]
  refine ⟨⟨trivial, ho, ?_⟩, H⟩
  unfold frozenH
  simp only [hb]
  exact hl o ho
end
theorem bIf_ite {b : Bool} {A B : Prop} (h1 : b = true → A) (h2 : b = false → B) : bIf b A B := by
  cases b
  · exact h2 rfl
  · exact h1 rfl
theorem bIf_dec {p : Prop} [Decidable p] {A B : Prop} (h1 : p → A) (h2 : ¬p → B) : bIf (decide p) A B :=
  bIf_ite (fun h => h1 (of_decide_eq_true h)) (fun h => h2 (of_decide_eq_false h))
theorem bIf_t {b : Bool} {A B : Prop} (h : b = true) (H : A) : bIf b A B := by subst h; exact H
theorem bIf_f {b : Bool} {A B : Prop} (h : b = false) (H : B) : bIf b A B := by subst h; exact H
theorem nz_i {ad : Addr} {K : Addr → Prop} (H : K ad) : nz (some ad) K := H
theorem wrap_i64 {n : Int} (h1 : -9223372036854775808 ≤ n) (h2 : n ≤ 9223372036854775807) : IntKind.i64.wrap n = n := by
  have e : IntKind.i64.wrap n = if n % 18446744073709551616 ≥ 9223372036854775808 then n % 18446744073709551616 - 18446744073709551616 else n % 18446744073709551616 := by
    simp [IntKind.wrap, IntKind.signed, IntKind.bits]
  rw [e]
  split <;> omega

/-! ### Whose a block is: (0, 0) what stays as it is; others: an object and its parts -/
abbrev Tag := Nat × Nat
abbrev Own := Nat → Tag
/-- What has become of the heap: of what was there only what belongs to S has changed, in what it is and whose it is. -/
structure Step (S : Tag → Prop) (o : Own) (h : Hp) (o' : Own) (h' : Hp) : Prop where
  keeps : ∀ b, h b ≠ none → ¬ S (o b) → h' b = h b
  owns : ∀ b, h b ≠ none → ¬ S (o b) → o' b = o b
  stays : ∀ b, h b ≠ none → h' b ≠ none
  inner : ∀ b, h b ≠ none → S (o b) → S (o' b)
theorem Step.refl (S : Tag → Prop) (o : Own) (h : Hp) : Step S o h o h := ⟨fun _ _ _ => rfl, fun _ _ _ => rfl, fun _ h => h, fun _ _ h => h⟩
theorem Step.trans {S : Tag → Prop} {o o' o'' : Own} {h h' h'' : Hp} (a : Step S o h o' h') (b : Step S o' h' o'' h'') : Step S o h o'' h'' :=
  ⟨fun c hc hs => (b.keeps c (a.stays c hc) (by rw [a.owns c hc hs]; exact hs)).trans (a.keeps c hc hs),
   fun c hc hs => (b.owns c (a.stays c hc) (by rw [a.owns c hc hs]; exact hs)).trans (a.owns c hc hs),
   fun c hc => b.stays c (a.stays c hc), fun c hc hs => b.inner c (a.stays c hc) (a.inner c hc hs)⟩
theorem Step.mono {S S' : Tag → Prop} {o o' : Own} {h h' : Hp} (a : Step S o h o' h') (hs : ∀ t, S t → S' t) : Step S' o h o' h' :=
  ⟨fun c hc hn => a.keeps c hc fun h => hn (hs _ h), fun c hc hn => a.owns c hc fun h => hn (hs _ h), a.stays, fun c hc hS' => by
    by_cases hS : S (o c)
    · exact hs _ (a.inner c hc hS)
    · rw [a.owns c hc hS]; exact hS'⟩
def Own.set (o : Own) (b : Nat) (t : Tag) : Own := fun x => if x = b then t else o x
@[simp] theorem Own.set_same (o : Own) (b : Nat) (t : Tag) : (o.set b t) b = t := by simp [Own.set]
theorem Own.set_ne (o : Own) {b c : Nat} (t : Tag) (hne : c ≠ b) : (o.set b t) c = o c := by simp [Own.set, hne]
/-- A new block. -/
theorem Step.new {S : Tag → Prop} {o : Own} {h : Hp} {r : Nat} (x : Obj) (t : Tag) (hr : h r = none) : Step S o h (o.set r t) (h.set r x) := by
  have hne : ∀ b, h b ≠ none → b ≠ r := fun b hb e => hb (e ▸ hr)
  exact ⟨fun b hb _ => Hp.set_ne h x (hne b hb), fun b hb _ => Own.set_ne o t (hne b hb), fun b hb => by rw [Hp.set_ne h x (hne b hb)]; exact hb,
    fun b hb hS => by rw [Own.set_ne o t (hne b hb)]; exact hS⟩
/-- A block of S, written. -/
theorem Step.put {S : Tag → Prop} {o : Own} {h : Hp} {r : Nat} (x : Obj) (hs : S (o r)) : Step S o h o (h.set r x) := by
  have hne : ∀ b, ¬ S (o b) → b ≠ r := fun b hb e => hb (e ▸ hs)
  exact ⟨fun b _ hn => Hp.set_ne h x (hne b hn), fun _ _ _ => rfl, fun b hb => by
    by_cases e : b = r
    · subst e; simp
    · rw [Hp.set_ne h x e]; exact hb, fun _ _ h => h⟩
/-- A block that was not there at first, written. -/
theorem Step.putNew {S : Tag → Prop} {o o' : Own} {h h' : Hp} {r : Nat} (a : Step S o h o' h') (x : Obj) (hr : h r = none) : Step S o h o' (h'.set r x) := by
  have hne : ∀ b, h b ≠ none → b ≠ r := fun b hb e => hb (e ▸ hr)
  exact ⟨fun b hb hn => (Hp.set_ne h' x (hne b hb)).trans (a.keeps b hb hn), a.owns, fun b hb => by rw [Hp.set_ne h' x (hne b hb)]; exact a.stays b hb, a.inner⟩
/-- Whose a block is that was not there at first, told anew. -/
theorem Step.ownNew {S : Tag → Prop} {o o' : Own} {h h' : Hp} {r : Nat} (a : Step S o h o' h') (t : Tag) (hr : h r = none) : Step S o h (o'.set r t) h' := by
  have hne : ∀ b, h b ≠ none → b ≠ r := fun b hb e => hb (e ▸ hr)
  exact ⟨a.keeps, fun b hb hn => (Own.set_ne o' t (hne b hb)).trans (a.owns b hb hn), a.stays, fun b hb hS => by rw [Own.set_ne o' t (hne b hb)]; exact a.inner b hb hS⟩
theorem Step.at {S : Tag → Prop} {o o' : Own} {h h' : Hp} (s : Step S o h o' h') {b : Nat} {x : Obj} (hb : h b = some x) (hn : ¬ S (o b)) : h' b = some x ∧ o' b = o b := by
  have hne : h b ≠ none := by rw [hb]; simp
  exact ⟨(s.keeps b hne hn).trans hb, s.owns b hne hn⟩

/-! ### Cells in a row -/
/-- Cells from a place on hold what a list says. -/
def CellsAt (cs : Array Value) (off : Nat) (xs : List Value) : Prop := ∀ i x, xs[i]? = some x → cs[off + i]? = some x
/-- A slice that can be read: its cells, all of them one owner's. -/
def Rc (o : Own) (h : Hp) (t : Tag) (sz : Nat) (a : Option Addr) (n c : Nat) (xs : List Value) : Prop :=
  xs.length = n * sz ∧ n ≤ c ∧ (n = 0 ∨ ∃ b off cs E fr, a = some ⟨b, off, none⟩ ∧ o b = t ∧ h b = some (.cells cs E fr) ∧ CellsAt cs off xs)
/-- A slice that is its owner's own: it may be grown and written. -/
def Oc (o : Own) (h : Hp) (t : Tag) (sz : Nat) (a : Option Addr) (n c : Nat) (xs : List Value) : Prop :=
  xs.length = n * sz ∧ n ≤ c ∧ (c = 0 ∨ ∃ b off cs E fr, a = some ⟨b, off, none⟩ ∧ o b = t ∧ h b = some (.cells cs E fr) ∧ CellsAt cs off xs ∧ off + c * sz ≤ cs.size ∧ Loose cs fr)
theorem Oc.read {o : Own} {h : Hp} {t : Tag} {sz : Nat} {a : Option Addr} {n c : Nat} {xs : List Value} (H : Oc o h t sz a n c xs) : Rc o h t sz a n c xs := by
  obtain ⟨h1, h2, h3⟩ := H
  refine ⟨h1, h2, ?_⟩
  rcases h3 with h3 | ⟨b, off, cs, E, fr, e1, e2, e3, e4, _, _⟩
  · exact .inl (by omega)
  · exact .inr ⟨b, off, cs, E, fr, e1, e2, e3, e4⟩
theorem Rc.step {S : Tag → Prop} {o o' : Own} {h h' : Hp} {t : Tag} {sz : Nat} {a : Option Addr} {n c : Nat} {xs : List Value} (H : Rc o h t sz a n c xs) (s : Step S o h o' h') (ht : ¬ S t) :
    Rc o' h' t sz a n c xs := by
  obtain ⟨h1, h2, h3⟩ := H
  refine ⟨h1, h2, ?_⟩
  rcases h3 with h3 | ⟨b, off, cs, E, fr, e1, e2, e3, e4⟩
  · exact .inl h3
  · obtain ⟨f1, f2⟩ := s.at e3 (by rw [e2]; exact ht)
    exact .inr ⟨b, off, cs, E, fr, e1, f2.trans e2, f1, e4⟩
theorem Oc.step {S : Tag → Prop} {o o' : Own} {h h' : Hp} {t : Tag} {sz : Nat} {a : Option Addr} {n c : Nat} {xs : List Value} (H : Oc o h t sz a n c xs) (s : Step S o h o' h') (ht : ¬ S t) :
    Oc o' h' t sz a n c xs := by
  obtain ⟨h1, h2, h3⟩ := H
  refine ⟨h1, h2, ?_⟩
  rcases h3 with h3 | ⟨b, off, cs, E, fr, e1, e2, e3, e4, e5⟩
  · exact .inl h3
  · obtain ⟨f1, f2⟩ := s.at e3 (by rw [e2]; exact ht)
    exact .inr ⟨b, off, cs, E, fr, e1, f2.trans e2, f1, e4, e5⟩
theorem Oc.nil {o : Own} {h : Hp} {t : Tag} {sz : Nat} (a : Option Addr) : Oc o h t sz a 0 0 [] := ⟨by simp, Nat.le_refl _, .inl rfl⟩

/-! ### Reading and writing rows of cells -/
theorem add_at (b off k : Nat) : (⟨b, off, none⟩ : Addr).add k = ⟨b, off + k, none⟩ := by
  unfold Addr.add
  split
  · rename_i e; subst e; rfl
  · rfl
theorem aw_loadFrom {P : Program} {h : Hp} {b off : Nat} {cs : Array Value} {E : TypeId} {fr : Nat × Nat} {K : Array Value → Hp → Prop} (hb : h b = some (.cells cs E fr)) :
    ∀ (xs : List Value) (i : Nat) (acc : Array Value), CellsAt cs (off + i) xs → K (acc ++ xs.toArray) h → aw P (loadCellsFrom ⟨b, off, none⟩ i xs.length acc) K h := by
  intro xs
  induction xs with
  | nil => intro i acc _ H; simpa [loadCellsFrom, aw, Pure.pure] using H
  | cons x xs ih =>
    intro i acc hc H
    have h0 : cs[off + i]? = some x := by simpa using hc 0 x rfl
    simp only [List.length_cons, loadCellsFrom]
    refine aw_bind' ?_
    simp only [Go.load, aw, add_at, cell, hb, h0]
    refine ih (i + 1) _ (fun j y hj => by have := hc (j + 1) y (by simpa using hj); rw [← this]; congr 1; omega) ?_
    simpa using H
theorem aw_loadCells {P : Program} {h : Hp} {b off : Nat} {cs : Array Value} {E : TypeId} {fr : Nat × Nat} {xs : List Value} {K : Array Value → Hp → Prop} (hb : h b = some (.cells cs E fr))
    (hc : CellsAt cs off xs) (H : K xs.toArray h) : aw P (loadCells ⟨b, off, none⟩ xs.length) K h :=
  aw_loadFrom hb xs 0 #[] (by simpa using hc) (by simpa using H)
/-- Cells with others laid over them. -/
def laid (cs : Array Value) (off : Nat) : List Value → Array Value
  | [] => cs
  | x :: r => laid (cs.setIfInBounds off x) (off + 1) r
theorem laid_size (off : Nat) : ∀ (xs : List Value) (cs : Array Value), (laid cs off xs).size = cs.size := by
  intro xs
  induction xs generalizing off with
  | nil => intro cs; rfl
  | cons x r ih => intro cs; simp [laid, ih]
theorem laid_get : ∀ (xs : List Value) (off : Nat) (cs : Array Value) (j : Nat), off + xs.length ≤ cs.size →
    (laid cs off xs)[j]? = if off ≤ j ∧ j < off + xs.length then xs[j - off]? else cs[j]? := by
  intro xs
  induction xs with
  | nil =>
    intro off cs j _
    have : ¬ (off ≤ j ∧ j < off + 0) := by omega
    simp [laid]; omega
  | cons x r ih =>
    intro off cs j hle
    simp only [List.length_cons] at hle
    simp only [laid]
    rw [ih (off + 1) _ j (by simp; omega)]
    by_cases h1 : j = off
    · subst h1
      have : ¬ (j + 1 ≤ j ∧ j < j + 1 + r.length) := by omega
      rw [if_neg this, if_pos ⟨Nat.le_refl _, by simp⟩]
      have hlt : j < cs.size := by omega
      simp [hlt]
    · by_cases h2 : off + 1 ≤ j ∧ j < off + 1 + r.length
      · rw [if_pos h2, if_pos (by simp only [List.length_cons]; omega)]
        have e : j - off = (j - (off + 1)) + 1 := by omega
        rw [e]; simp
      · rw [if_neg h2, if_neg (by simp only [List.length_cons]; omega)]
        rw [Array.getElem?_setIfInBounds_ne (fun e => h1 e.symm)]
theorem Loose.laid {fr : Nat × Nat} : ∀ {xs : List Value} {cs : Array Value} {off : Nat}, Loose cs fr → Loose (laid cs off xs) fr := by
  intro xs cs off h j hj
  exact h j (by rw [laid_size] at hj; exact hj)
theorem aw_storeCells {P : Program} {b : Nat} {E : TypeId} {fr : Nat × Nat} {K : Unit → Hp → Prop} : ∀ (xs : List Value) (h : Hp) (cs : Array Value) (off i : Nat),
    h b = some (.cells cs E fr) → Loose cs fr → (∀ x ∈ xs, flatV x = true) → off + i + xs.length ≤ cs.size →
    (∀ h', (∀ c, c ≠ b → h' c = h c) → h' b = some (.cells (laid cs (off + i) xs) E fr) → K () h') → aw P (storeCells ⟨b, off, none⟩ xs i) K h := by
  intro xs
  induction xs with
  | nil => intro h cs off i hb _ _ _ H; exact H h (fun _ _ => rfl) hb
  | cons x xs ih =>
    intro h cs off i hb hl hp hle H
    simp only [List.length_cons] at hle
    unfold storeCells
    refine aw_bind' ?_
    refine st_aw (K := fun _ h' => aw P (storeCells ⟨b, off, none⟩ xs (i + 1)) K h') ?_
    rw [add_at]
    refine st_v hb hl (hp x (List.mem_cons_self ..)) (by omega) ?_
    refine ih _ (cs.setIfInBounds (off + i) x) off (i + 1) (Hp.set_same _ _ _) (hl.set _ _) (fun y hy => hp y (List.mem_cons_of_mem _ hy)) (by simp; omega) ?_
    intro h' h1 h2
    exact H h' (fun c hc => (h1 c hc).trans (Hp.set_ne h _ hc)) h2
end Go.H
