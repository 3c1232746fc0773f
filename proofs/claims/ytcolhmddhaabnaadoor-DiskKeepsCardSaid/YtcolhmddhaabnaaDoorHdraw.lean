import Derived.Test.YtcolhmddhaabnaaDoorHreg
namespace Go.H
section
variable {P : Program} {ops : Array Oper} {Q : Exit → Act → World → Prop}

def wpAnyL (P : Program) (ops : Array Oper) (Q : Exit → Act → World → Prop) (S : Array Bool → World → Prop) : Nat → Array Bool → Act → World → Prop
  | 0, L, a, w => Region.ready .any ops L = [] ∧ Q .normal a w
  | f + 1, L, a, w =>
    (Region.ready .any ops L = [] → Q .normal a w) ∧
    ∀ i ∈ Region.ready .any ops L, wpOp P ops Q i (fun a' w' => S (L.setIfInBounds i true) w' ∧ wpAnyL P ops Q S f (L.setIfInBounds i true) a' w') a w

theorem wpAny_of_L {S : Array Bool → World → Prop} : ∀ (f : Nat) (L : Array Bool) (a : Act) (w : World), wpAnyL P ops Q S f L a w → wpAny P .any ops Q f L a w
  | 0, _, _, _, h => h
  | f + 1, _, _, _, h => ⟨h.1, fun i hi => wpOp_mono (fun a' w' h' => wpAny_of_L f _ a' w' h'.2) (h.2 i hi)⟩

def Sub (L L' : Array Bool) : Prop := ∀ j, L.getD j false = true → L'.getD j false = true
theorem Sub.refl (L : Array Bool) : Sub L L := fun _ h => h
theorem Sub.set {L L' : Array Bool} (h : Sub L L') (i : Nat) : Sub L (L'.setIfInBounds i true) := fun j hj => getD_set_true (h j hj)

theorem wpAnyL_mono {S S' : Array Bool → World → Prop} : ∀ (f : Nat) (L : Array Bool), (∀ L', Sub L L' → ∀ w, S' L' w → S L' w) →
    ∀ (a : Act) (w : World), wpAnyL P ops Q S' f L a w → wpAnyL P ops Q S f L a w
  | 0, _, _, _, _, h => h
  | f + 1, L, hs, _, _, h => ⟨h.1, fun i hi => wpOp_mono (fun a' w' h' => ⟨hs _ ((Sub.refl L).set i) _ h'.1,
      wpAnyL_mono f _ (fun L' hL' => hs L' (fun j hj => hL' j (getD_set_true hj))) a' w' h'.2⟩) (h.2 i hi)⟩

/-- Each operation that has come up had all that it waits for. -/
def Closed (ops : Array Oper) (L : Array Bool) : Prop := ∀ j i, L.getD j false = true → edgeTo ops j i = true → L.getD i false = true
theorem getD_set_self {L : Array Bool} {i : Nat} (h : (L.setIfInBounds i true).getD i false = true → True := fun _ => trivial) : i < L.size → (L.setIfInBounds i true).getD i false = true := by
  intro hi; simp [hi]
theorem edgeTo_ready {L : Array Bool} {j i : Nat} (hj : j ∈ Region.ready .any ops L) (he : edgeTo ops j i = true) : L.getD i false = true := by
  obtain ⟨_, o, ho, hall⟩ := mem_ready.1 hj
  simp only [edgeTo, ho, List.any_eq_true, Bool.and_eq_true, beq_iff_eq] at he
  obtain ⟨e, hm, hb, rfl⟩ := he
  exact hall e (by simpa using hm) hb
theorem Closed.set {L : Array Bool} (h : Closed ops L) {j : Nat} (hj : j ∈ Region.ready .any ops L) : Closed ops (L.setIfInBounds j true) := by
  intro k i hk he
  by_cases hkj : k = j
  · subst hkj; exact getD_set_true (edgeTo_ready hj he)
  · rw [getD_set_ne false (fun e => hkj e.symm)] at hk
    exact getD_set_true (h k i hk he)
theorem Closed.reach {L : Array Bool} (h : Closed ops L) {j i : Nat} (hj : L.getD j false = true) (hr : reach2 ops j i = true) : L.getD i false = true := by
  unfold reach2 at hr
  cases ho : ops[j]? with
  | none => simp [ho] at hr
  | some o =>
    simp only [ho, List.any_eq_true, Bool.and_eq_true, Bool.or_eq_true, beq_iff_eq] at hr
    obtain ⟨e, hm, hb, hh⟩ := hr
    have hon : L.getD e.on false = true := h j e.on hj (by simp only [edgeTo, ho, List.any_eq_true, Bool.and_eq_true, beq_iff_eq]; exact ⟨e, hm, hb, rfl⟩)
    rcases hh with rfl | hh
    · exact hon
    · exact h _ _ hon hh

def effAt (P : Program) (ops : Array Oper) (j : Nat) : Bool :=
  match ops[j]? with
  | some o => efOp P o
  | none => false
/-- Has nothing come up that does more than read and that waits for i? -/
def NoDep (P : Program) (ops : Array Oper) (i : Nat) (L : Array Bool) : Prop := ∀ j, L.getD j false = true → effAt P ops j = true → reach2 ops j i = false
theorem NoDep.of_closed {L : Array Bool} {i : Nat} (h : Closed ops L) (hi : L.getD i false = false) : NoDep P ops i L := by
  intro j hj _
  cases hr : reach2 ops j i with
  | false => rfl
  | true => have := h.reach hj hr; rw [hi] at this; cases this
theorem NoDep.set {L : Array Bool} {i k : Nat} (hk : effAt P ops k = false) : NoDep P ops i (L.setIfInBounds k true) ↔ NoDep P ops i L := by
  constructor
  · intro h j hj he; exact h j (getD_set_true hj) he
  · intro h j hj he
    by_cases hjk : k = j
    · subst hjk; rw [hk] at he; cases he
    · rw [getD_set_ne false hjk] at hj; exact h j hj he

theorem getD_false_of_true {L : Array Bool} {i : Nat} (h : L.getD i true = false) : L.getD i false = false := getD_both' h
where
  getD_both' {L : Array Bool} {i : Nat} (h : L.getD i true = false) : L.getD i false = false := by
    rcases Nat.lt_or_ge i L.size with h' | h'
    · simp [h'] at h ⊢; exact h
    · simp [Array.getElem?_eq_none h'] at h

theorem firstL {i : Nat} {oi : Oper} {v : Value} {D : World → Prop} {S : Array Bool → World → Prop} (hi : ops[i]? = some oi) (hne : effAt P ops i = false)
    (hsel : ∀ (j : Nat) (o : Oper) cs b, ops[j]? = some o → o.op ≠ .select cs b)
    (hQ : ∀ c a w, Q (.panic c) (a.put oi.dst v) w → Q (.panic c) a w)
    (hSi : ∀ L w, S (L.setIfInBounds i true) w → S L w) :
    ∀ (fuel : Nat) (L : Array Bool) (a : Act) (w : World),
      (∀ j oj, ops[j]? = some oj → j ≠ i → L.getD j true = false → (∀ e ∈ oj.after, Region.binds .any e = true → e.on ≠ i) → oi.apart ops oj = true) →
      i ∈ Region.ready .any ops L → Closed ops L → YieldsIf P ops D oi v a → D w → S (L.setIfInBounds i true) w →
      wpAnyL P ops Q (fun L w => S L w ∧ (NoDep P ops i L → D w)) fuel (L.setIfInBounds i true) (a.put oi.dst v) w → wpAnyL P ops Q S (fuel + 1) L a w := by
  intro fuel
  induction fuel with
  | zero =>
    intro L a w _ hr _ hy hD hS0 H
    refine ⟨fun h => (by rw [h] at hr; cases hr), fun j hj => ?_⟩
    by_cases hji : j = i
    · subst hji; exact hy.wpOp hi hD ⟨hS0, H⟩
    · have := ready_mono hj hji
      rw [H.1] at this
      cases this
  | succ fuel ih =>
    intro L a w hfree hr hcl hy hD hS0 H
    refine ⟨fun h => (by rw [h] at hr; cases hr), fun j hj => ?_⟩
    by_cases hji : j = i
    · subst hji
      refine hy.wpOp hi hD ⟨hS0, ?_⟩
      exact wpAnyL_mono _ _ (fun L' _ w h => h.1) _ _ H
    · have h1 := H.2 j (ready_mono hj hji)
      obtain ⟨hjun, oj, hoj, hall⟩ := mem_ready.1 hj
      have hnot : ∀ e ∈ oj.after, Region.binds .any e = true → e.on ≠ i := fun e he hb heq => by
        have h1 := hall e he hb
        have h0 := (mem_ready.1 hr).1
        rw [heq] at h1
        rcases Nat.lt_or_ge i L.size with h' | h'
        · simp [h'] at h0 h1; rw [h0] at h1; cases h1
        · simp [Array.getElem?_eq_none h'] at h1
      have h2 := wpOp_putIf hoj (hfree j oj hoj hji hjun hnot) (fun cs b => hsel i oi cs b hi) (fun cs b => hsel j oj cs b hoj) hQ hy h1
      have hfree' : ∀ k ok, ops[k]? = some ok → k ≠ i → (L.setIfInBounds j true).getD k true = false →
          (∀ e ∈ ok.after, Region.binds .any e = true → e.on ≠ i) → oi.apart ops ok = true := fun k ok hk hki hun hno => by
        refine hfree k ok hk hki ?_ hno
        by_cases hjk : j = k
        · subst hjk; exact hjun
        · rw [getD_set_ne true hjk] at hun; exact hun
      have hcl' := hcl.set hj
      have hiL : (L.setIfInBounds j true).getD i false = false := by
        rw [getD_set_ne false hji]; exact getD_false_of_true (mem_ready.1 hr).1
      refine wpOp_mono (fun a' w' h3 => ?_) h2
      obtain ⟨hy', ⟨hS', hD'⟩, hrest⟩ := h3
      rw [Array.setIfInBounds_comm _ _ (fun e => hji e.symm)] at hS' hD' hrest
      exact ⟨hSi _ _ hS', ih (L.setIfInBounds j true) a' w' hfree' (ready_mono hr (Ne.symm hji)) hcl' hy' (hD' ((NoDep.set hne).2 (NoDep.of_closed hcl' hiL))) hS' hrest⟩

end
end Go.H
