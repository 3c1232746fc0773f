import Derived.Test.YtcolhmddhaabnaaDoorHapp
namespace Go.H
theorem rd_b {α β : Type} {P : Program} {s : Sem α} {f : α → Sem β} {h : Hp} {a : α} {r : Option β} (h1 : rd P s h = some a) (h2 : rd P (f a) h = r) : rd P (s >>= f) h = r := by
  change rd P (s.bind f) h = r
  rw [rd_bind, h1]; exact h2
theorem rd_p {α : Type} {P : Program} {h : Hp} {a : α} : rd P (Pure.pure a : Sem α) h = some a := rfl
theorem oRd_i {P : Program} {s : Sem Value} {h : Hp} {v : Value} {K : Value → Prop} (h1 : rd P s h = some v) (H : K v) : oRd P s h K := by
  unfold oRd; rw [h1]; exact H
theorem ix_slice {P : Program} {T e sz by_ : Nat} {b off n c : Nat} {k : IntKind} {i : Int} {h : Hp} {K : Addr → Prop} (hE : Elem P T e sz by_)
    (h0 : 0 ≤ i) (h1 : i < n) (H : K ⟨b, off + i.toNat * sz, none⟩) : ixA P T (.slice (some ⟨b, off, none⟩) n c) (.int k i) h K := by
  obtain ⟨hu, inf, z, hi, his, _, _, _⟩ := hE
  refine oRd_i (v := .pointer (some ⟨b, off + i.toNat * sz, none⟩)) ?_ H
  unfold Instr.indexAt
  refine rd_b (a := (k, i)) rfl ?_
  refine rd_b (rd_und.trans hu) ?_
  refine rd_b (a := (some ⟨b, off, none⟩, n, e)) rfl ?_
  refine rd_b (rd_und.trans hu) ?_
  dsimp only
  rw [if_pos ⟨h0, h1⟩]
  refine rd_b (rd_size hi) ?_
  rw [sizeB_eq hi, his, add_at]
  rfl
/-- What a type's row says of an array. -/
structure ArrT (P : Program) (T e len sz : Nat) : Prop where
  und : P.underlying T = some (.array len e)
  info : ∃ i, P.info? e = some i ∧ i.size = sz
def arrOk (P : Program) (T e len sz : Nat) : Bool :=
  (match P.underlying T with | some (.array l' e') => Nat.beq e' e && Nat.beq l' len | _ => false) &&
  (match P.info? e with | some i => Nat.beq i.size sz | none => false)
theorem arr_of {P : Program} {T e len sz : Nat} (h : arrOk P T e len sz = true) : ArrT P T e len sz := by
  unfold arrOk at h
  simp only [Bool.and_eq_true] at h
  obtain ⟨h1, h2⟩ := h
  constructor
  · split at h1
    · rename_i l' e' he
      simp only [Bool.and_eq_true] at h1
      rw [he, Nat.eq_of_beq_eq_true h1.1, Nat.eq_of_beq_eq_true h1.2]
    · cases h1
  · split at h2
    · rename_i i hi; exact ⟨i, hi, Nat.eq_of_beq_eq_true h2⟩
    · cases h2
theorem ix_arr {P : Program} {T e len sz : Nat} {b off : Nat} {k : IntKind} {i : Int} {h : Hp} {K : Addr → Prop} (hE : ArrT P T e len sz)
    (h0 : 0 ≤ i) (h1 : i < len) (H : K ⟨b, off + i.toNat * sz, none⟩) : ixA P T (.pointer (some ⟨b, off, none⟩)) (.int k i) h K := by
  obtain ⟨hu, inf, hi, his⟩ := hE
  refine oRd_i (v := .pointer (some ⟨b, off + i.toNat * sz, none⟩)) ?_ H
  unfold Instr.indexAt
  refine rd_b (a := (k, i)) rfl ?_
  refine rd_b (rd_und.trans hu) ?_
  refine rd_b (a := (⟨b, off, none⟩ : Addr)) rfl ?_
  refine rd_b (a := (some ⟨b, off, none⟩, len, e)) rfl ?_
  refine rd_b (rd_und.trans hu) ?_
  dsimp only
  rw [if_pos ⟨h0, h1⟩]
  refine rd_b (rd_size hi) ?_
  rw [sizeB_eq hi, his, add_at]
  rfl
theorem rd_bound {P : Program} {h : Hp} {k : IntKind} {x : Int} {y : Nat} {c : BoundsCode} (h0 : 0 ≤ x) (h1 : x ≤ y) : rd P (Instr.sliceBound (.int k x) y c) h = some x.toNat := by
  unfold Instr.sliceBound
  refine rd_b (a := (k, x)) rfl ?_
  dsimp only
  rw [if_pos ⟨h0, h1⟩]
  rfl
/-- Where a cut of a slice begins. -/
def cutA (a : Option Addr) (l sz c : Nat) : Option Addr := if c = l then a else a.map (·.add (l * sz))
theorem sl_lo {P : Program} {T e sz by_ : Nat} {a : Option Addr} {n c : Nat} {k : IntKind} {x : Int} {h : Hp} {K : Option Addr → Nat → Nat → Prop} (hE : Elem P T e sz by_)
    (h0 : 0 ≤ x) (h1 : x ≤ n) (H : K (cutA a x.toNat sz c) (n - x.toNat) (c - x.toNat)) :
    oRd P (Instr.sliceAt T (.slice a n c) (some (.int k x)) none none) h fun v => asSl v K := by
  obtain ⟨hu, inf, z, hi, his, _, _, _⟩ := hE
  refine oRd_i (v := .slice (cutA a x.toNat sz c) (n - x.toNat) (c - x.toNat)) ?_ H
  unfold Instr.sliceAt
  refine rd_b (rd_und.trans hu) ?_
  dsimp only
  unfold Instr.slice
  refine rd_b (rd_und.trans hu) ?_
  dsimp only
  refine rd_b (a := (x.toNat, n, c)) ?_ ?_
  · unfold Instr.sliceBounds
    refine rd_b (a := c) rfl ?_
    refine rd_b (a := n) rfl ?_
    refine rd_b (rd_bound h0 h1) ?_
    rfl
  · refine rd_b (rd_size hi) ?_
    rw [sizeB_eq hi, his]
    rfl
theorem sl_hi {P : Program} {T e sz by_ : Nat} {a : Option Addr} {n c : Nat} {k : IntKind} {x : Int} {h : Hp} {K : Option Addr → Nat → Nat → Prop} (hE : Elem P T e sz by_)
    (h0 : 0 ≤ x) (h1 : x ≤ c) (H : K a x.toNat c) :
    oRd P (Instr.sliceAt T (.slice a n c) none (some (.int k x)) none) h fun v => asSl v K := by
  obtain ⟨hu, inf, z, hi, his, _, _, _⟩ := hE
  refine oRd_i (v := .slice a x.toNat c) ?_ H
  unfold Instr.sliceAt
  refine rd_b (rd_und.trans hu) ?_
  dsimp only
  unfold Instr.slice
  refine rd_b (rd_und.trans hu) ?_
  dsimp only
  refine rd_b (a := (0, x.toNat, c)) ?_ ?_
  · unfold Instr.sliceBounds
    refine rd_b (a := c) rfl ?_
    refine rd_b (rd_bound h0 h1) ?_
    rfl
  · refine rd_b (rd_size hi) ?_
    rw [sizeB_eq hi, his]
    have e1 : (if c = 0 then a else a.map (·.add (0 * sz))) = a := by
      split
      · rfl
      · cases a <;> simp [Addr.add]
    simp only [rd_p, Nat.sub_zero, e1]
theorem sl_lohi {P : Program} {T e sz by_ : Nat} {a : Option Addr} {n c : Nat} {k k' : IntKind} {x y : Int} {h : Hp} {K : Option Addr → Nat → Nat → Prop} (hE : Elem P T e sz by_)
    (h0 : 0 ≤ x) (h1 : x ≤ y) (h2 : y ≤ c) (H : K (cutA a x.toNat sz c) (y.toNat - x.toNat) (c - x.toNat)) :
    oRd P (Instr.sliceAt T (.slice a n c) (some (.int k x)) (some (.int k' y)) none) h fun v => asSl v K := by
  obtain ⟨hu, inf, z, hi, his, _, _, _⟩ := hE
  refine oRd_i (v := .slice (cutA a x.toNat sz c) (y.toNat - x.toNat) (c - x.toNat)) ?_ H
  unfold Instr.sliceAt
  refine rd_b (rd_und.trans hu) ?_
  dsimp only
  unfold Instr.slice
  refine rd_b (rd_und.trans hu) ?_
  dsimp only
  refine rd_b (a := (x.toNat, y.toNat, c)) ?_ ?_
  · unfold Instr.sliceBounds
    refine rd_b (a := c) rfl ?_
    refine rd_b (rd_bound (by omega) h2) ?_
    refine rd_b (rd_bound h0 (by omega)) ?_
    rfl
  · refine rd_b (rd_size hi) ?_
    rw [sizeB_eq hi, his]
    rfl

/-- A cut of what can be read. -/
theorem Rc.cut {o : Own} {h : Hp} {t : Tag} {sz : Nat} {a : Option Addr} {n c : Nat} {xs : List Value} (H : Rc o h t sz a n c xs) {l m : Nat} (hl : l ≤ m) (hm : m ≤ n) :
    Rc o h t sz (cutA a l sz c) (m - l) (c - l) ((xs.drop (l * sz)).take ((m - l) * sz)) := by
  obtain ⟨h1, h2, h3⟩ := H
  have hb : m * sz ≤ n * sz := Nat.mul_le_mul_right _ hm
  have hb2 : (m - l) * sz = m * sz - l * sz := Nat.sub_mul ..
  have hb3 : l * sz ≤ m * sz := Nat.mul_le_mul_right _ hl
  refine ⟨by rw [List.length_take, List.length_drop, h1]; omega, by omega, ?_⟩
  by_cases hz : m - l = 0
  · exact .inl hz
  · rcases h3 with h3 | ⟨b, off, cs, E, fr, rfl, e2, e3, e4⟩
    · omega
    · refine .inr ⟨b, off + l * sz, cs, E, fr, ?_, e2, e3, ?_⟩
      · unfold cutA
        rw [if_neg (by omega)]
        simp [add_at]
      · intro i x hi
        rw [List.getElem?_take] at hi
        split at hi
        · rw [List.getElem?_drop] at hi
          have := e4 _ x hi
          rw [← this]; congr 1; omega
        · cases hi
/-- The beginning of what is one's own is one's own. -/
theorem Oc.take {o : Own} {h : Hp} {t : Tag} {sz : Nat} {a : Option Addr} {n c : Nat} {xs : List Value} (H : Oc o h t sz a n c xs) {m : Nat} (hm : m ≤ n) :
    Oc o h t sz a m c (xs.take (m * sz)) := by
  obtain ⟨h1, h2, h3⟩ := H
  have hb : m * sz ≤ n * sz := Nat.mul_le_mul_right _ hm
  refine ⟨by rw [List.length_take, h1]; omega, by omega, ?_⟩
  rcases h3 with h3 | ⟨b, off, cs, E, fr, rfl, e2, e3, e4, e5⟩
  · exact .inl h3
  · refine .inr ⟨b, off, cs, E, fr, rfl, e2, e3, ?_, e5⟩
    intro i x hi
    rw [List.getElem?_take] at hi
    split at hi
    · exact e4 i x hi
    · cases hi

/-- copy into a part of what is one's own. -/
theorem copy_own {P : Program} {T U e sz by_ : Nat} {fl : Array Bool} {o : Own} {h : Hp} {t : Tag} {a b : Option Addr} {n c l m d : Nat} {xs ys : List Value} {ty : TypeId} {K : Value → Hp → Prop}
    (hE : Elem P T e sz by_) (hx : Oc o h t sz a n c xs) (hl : l + m ≤ n) (hy : Src h sz b m ys) (hp : ∀ y ∈ ys, flatV y = true)
    (H : ∀ h', Oc o h' t sz a n c (xs.take (l * sz) ++ ys ++ xs.drop ((l + m) * sz)) → Step (Only t) o h o h' → K (.int .i64 m) h') :
    oNx P (builtin .copy #[T, U] ty fl #[.slice (cutA a l sz c) (n - l) (c - l), .slice b m d]) h K := by
  obtain ⟨hu, i, z, hi, his, hib, hiz, hzs⟩ := hE
  obtain ⟨hx1, hx2, hx3⟩ := id hx
  have hy1 := hy.1
  have hml : (l + m) * sz = l * sz + m * sz := Nat.add_mul ..
  refine aw_vs ?_
  unfold Builtin.copy_
  simp only [List.getElem?_toArray, List.getElem?_cons_zero, List.getElem?_cons_succ]
  refine aw_bind' (aw_und hu ?_)
  dsimp only
  refine aw_bind' (aw_pure ?_)
  refine aw_bind' (aw_size hi ?_)
  rw [sizeB_eq hi, his]
  have hmin : Nat.min m (n - l) = m := Nat.min_eq_left (by omega)
  rw [hmin]
  refine aw_bind' (aw_first hy ?_)
  have key : xs.length = n * sz := hx1
  rcases hx3 with hc0 | ⟨bk, off, cs, E, fr, rfl, hob, hhb, hca, hsz, hloose⟩
  · have hm : m = 0 := by omega
    have hn : n = 0 := by omega
    have hl0 : l = 0 := by omega
    subst hm hn hl0 hc0
    have hys : ys = [] := by simpa using hy1
    have hxs : xs = [] := by simpa using hx1
    subst hys hxs
    have fin : K (.int .i64 (0 : Nat)) h := H h (by simpa using Oc.nil a) (.refl _ _ _)
    cases hca : cutA a 0 sz 0 with
    | none => exact fin
    | some ad =>
      refine aw_bind' ?_
      simp only [storeCells, aw, Pure.pure]
      exact fin
  · have hn : n * sz ≤ c * sz := Nat.mul_le_mul_right _ hx2
    have hlm : (l + m) * sz ≤ n * sz := Nat.mul_le_mul_right _ hl
    by_cases hcl : c = l
    · have hm : m = 0 := by omega
      subst hm
      have hys : ys = [] := by simpa using hy1
      subst hys
      simp only [cutA, hcl, if_true]
      refine aw_bind' ?_
      simp only [storeCells, aw, Pure.pure]
      refine H h ?_ (.refl _ _ _)
      have hh := hx
      rw [hcl] at hh
      simpa [Nat.add_mul, hcl] using hh
    · simp only [cutA, if_neg hcl, Option.map_some, add_at]
      refine aw_bind' ?_
      have hle : off + l * sz + ys.length ≤ cs.size := by rw [hy1]; omega
      refine aw_storeCells ys h cs (off + l * sz) 0 hhb hloose hp (by omega) ?_
      intro h' h1 h2
      simp only [Nat.add_zero] at h2
      refine aw_pure ?_
      have heq : h' = h.set bk (.cells (laid cs (off + l * sz) ys) E fr) := by
        funext k
        by_cases hk : k = bk
        · subst hk; rw [h2]; simp
        · rw [h1 k hk, Hp.set_ne h _ hk]
      refine H h' ⟨?_, hx2, .inr ⟨bk, off, _, E, fr, rfl, hob, h2, ?_, by rw [laid_size]; exact hsz, hloose.laid⟩⟩ (by rw [heq]; exact Step.put _ hob)
      · rw [List.length_append, List.length_append, List.length_take, List.length_drop, hx1, hy1]; omega
      · intro k x hk
        rw [laid_get _ _ _ _ hle]
        rw [List.getElem?_append] at hk
        split at hk
        · rename_i hlt
          rw [List.getElem?_append] at hk
          rw [List.length_append, List.length_take, hx1, hy1] at hlt
          split at hk
          · rename_i hlt2
            rw [List.length_take, hx1] at hlt2
            rw [if_neg (by omega)]
            rw [List.getElem?_take] at hk
            rw [if_pos (by omega)] at hk
            exact hca k x hk
          · rename_i hlt2
            rw [List.length_take, hx1] at hlt2 hk
            rw [if_pos (by rw [hy1]; omega), ← hk]
            congr 1; omega
        · rename_i hlt
          rw [List.length_append, List.length_take, hx1, hy1] at hlt hk
          rw [if_neg (by rw [hy1]; omega)]
          rw [List.getElem?_drop] at hk
          refine hca k x ?_
          rw [← hk]; congr 1; omega
end Go.H
