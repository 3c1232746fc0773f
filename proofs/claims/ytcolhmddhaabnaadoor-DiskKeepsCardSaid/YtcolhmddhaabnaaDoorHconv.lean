import Derived.Test.YtcolhmddhaabnaaDoorHmisc
import Derived.Laws.Strings
set_option linter.unusedVariables false
namespace Go.H
/-! ### Texts as lists of bytes -/
def str (l : List UInt8) : ByteArray := ⟨l.toArray⟩
theorem str_toList (l : List UInt8) : (str l).toList = l := by rw [ByteArray.toList_eq]; rfl
theorem strEq_str (a b : List UInt8) : strEq (str a) (str b) = (a == b) := by unfold strEq; rw [str_toList, str_toList]
theorem str_size (l : List UInt8) : (str l).size = l.length := by simp [str, ByteArray.size]
/-- A byte in a cell. -/
def by8 (x : UInt8) : Value := .int .u8 x.toNat
theorem plain_by8 {l : List UInt8} : ∀ y ∈ l.map by8, flatV y = true := by
  intro y hy
  obtain ⟨x, _, rfl⟩ := List.mem_map.1 hy
  rfl
theorem rd_loadCellsFrom {P : Program} {h : Hp} {b off : Nat} {cs : Array Value} {E : TypeId} {fr : Nat × Nat} (hb : h b = some (.cells cs E fr)) :
    ∀ (xs : List Value) (i : Nat) (acc : Array Value), CellsAt cs (off + i) xs → rd P (loadCellsFrom ⟨b, off, none⟩ i xs.length acc) h = some (acc ++ xs.toArray) := by
  intro xs
  induction xs with
  | nil => intro i acc _; simp [loadCellsFrom, rd, Pure.pure]
  | cons x xs ih =>
    intro i acc hc
    have h0 := hc 0 x rfl
    simp only [Nat.add_zero] at h0
    simp only [List.length_cons, loadCellsFrom]
    change rd P (Sem.bind (Go.load _) _) h = _
    rw [rd_bind, add_at]
    have hv : cell h ⟨b, off + i, none⟩ = some x := by simp [cell, hb, h0]
    simp only [Go.load, rd, hv, Option.bind_some]
    rw [ih (i + 1) (acc.push x) (fun j y hj => by have := hc (j + 1) y (by simpa using hj); rw [← this]; congr 1; omega)]
    simp
theorem rd_loadCells {P : Program} {h : Hp} {b off : Nat} {cs : Array Value} {E : TypeId} {fr : Nat × Nat} {xs : List Value} (hb : h b = some (.cells cs E fr)) (hc : CellsAt cs off xs) :
    rd P (loadCells ⟨b, off, none⟩ xs.length) h = some xs.toArray := by
  have := rd_loadCellsFrom (P := P) hb xs 0 #[] hc
  simpa [loadCells] using this
theorem foldl_push (l : List UInt8) : ∀ s : ByteArray, (l.map fun x => ((x.toNat : Nat) : Int)).foldl (fun r n => r.push (UInt8.ofNat n.toNat)) s = ⟨s.data ++ l.toArray⟩ := by
  induction l with
  | nil => intro s; simp
  | cons x l ih =>
    intro s
    simp only [List.map_cons, List.foldl_cons, Int.toNat_natCast]
    rw [ih]
    simp [ByteArray.push]
theorem rd_forIn_bytes {P : Program} {h : Hp} (f : Value → ByteArray → Sem (ForInStep ByteArray))
    (hf : ∀ (n : Int) (r : ByteArray), rd P (f (.int .u8 n) r) h = some (.yield (r.push (UInt8.ofNat n.toNat)))) :
    ∀ (ns : List Int) (s : ByteArray), rd P (forIn (ns.map (Value.int .u8)) s f) h = some (ns.foldl (fun r n => r.push (UInt8.ofNat n.toNat)) s) := by
  intro ns
  induction ns with
  | nil => intro s; rfl
  | cons n ns ih =>
    intro s
    simp only [List.map_cons, List.forIn_cons, List.foldl_cons]
    refine rd_b (hf n s) ?_
    exact ih _
/-- Types of bytes, and of texts. -/
structure BytesT (P : Program) (T S e : Nat) : Prop where
  und : P.underlying T = some (.slice e)
  el : P.underlying e = some (.int .u8)
  st : P.underlying S = some .string
def bytesOk (P : Program) (T S e : Nat) : Bool :=
  (match P.underlying T with | some (.slice e') => Nat.beq e' e | _ => false) && (match P.underlying e with | some (.int .u8) => true | _ => false) && (match P.underlying S with | some .string => true | _ => false)
theorem bytes_of {P : Program} {T S e : Nat} (h : bytesOk P T S e = true) : BytesT P T S e := by
  unfold bytesOk at h
  simp only [Bool.and_eq_true] at h
  obtain ⟨⟨h1, h2⟩, h3⟩ := h
  refine ⟨?_, ?_, ?_⟩
  · split at h1
    · rename_i e' he; rw [he, Nat.eq_of_beq_eq_true h1]
    · cases h1
  · split at h2
    · assumption
    · cases h2
  · split at h3
    · assumption
    · cases h3
/-- string(bytes) -/
theorem rd_str {P : Program} {T S e : Nat} {o : Own} {h : Hp} {t : Tag} {a : Option Addr} {n c : Nat} {l : List UInt8} (hB : BytesT P T S e) (hx : Rc o h t 1 a n c (l.map by8)) :
    rd P (convert T S (.slice a n c)) h = some (.string (str l)) := by
  unfold convert
  refine rd_b (rd_und.trans hB.und) ?_
  refine rd_b (rd_und.trans hB.st) ?_
  dsimp only
  refine rd_b (rd_und.trans hB.el) ?_
  dsimp only
  unfold Conv.bytesToString
  have hn : n = l.length := by have := hx.1; simp at this; omega
  cases a with
  | none =>
    have h0 : n = 0 := by
      rcases hx.2.2 with h0 | ⟨_, _, _, _, _, e0, _⟩
      · exact h0
      · cases e0
    have : l = [] := List.length_eq_zero_iff.1 (by omega)
    subst this
    rfl
  | some ad =>
    have key : rd P (loadCells ad n) h = some (l.map by8).toArray := by
      rcases hx.2.2 with h0 | ⟨b, off, cs, E, fr, e0, e1, e2, e3⟩
      · have : l = [] := List.length_eq_zero_iff.1 (by omega)
        subst this
        subst h0
        rfl
      · cases e0
        have := rd_loadCells (P := P) e2 e3
        rw [List.length_map, ← hn] at this
        exact this
    dsimp only
    refine rd_b key ?_
    rw [List.forIn_toArray]
    have hm : l.map by8 = (l.map fun x => ((x.toNat : Nat) : Int)).map (Value.int .u8) := by rw [List.map_map]; rfl
    rw [hm]
    refine rd_b (rd_forIn_bytes _ (by intro n r; rfl) _ _) ?_
    rw [foldl_push]
    simp [rd, Pure.pure, str]
theorem str_ok {P : Program} {T S e : Nat} {o : Own} {h : Hp} {t : Tag} {a : Option Addr} {n c : Nat} {l : List UInt8} {K : ByteArray → Prop} (hB : BytesT P T S e) (hx : Rc o h t 1 a n c (l.map by8)) (H : K (str l)) :
    oRd P (convert T S (.slice a n c)) h fun v => asStr v K := oRd_i (rd_str hB hx) H
/-- []byte("..") of a text that is written down. -/
theorem lit_ok {P : Program} {T S e : Nat} {h : Hp} (o : Own) (t : Tag) {l : List UInt8} {cs : Array Value} {n : Nat} {E : TypeId} {K : Option Addr → Nat → Nat → Hp → Prop} (hB : BytesT P T S e) (hcs : cs = (l.map by8).toArray) (hn : n = l.length)
    (H : ∀ o' h' r, h r = none → Oc o' h' t 1 (some ⟨r, 0, none⟩) n n (l.map by8) → Step (fun _ => False) o h o' h' → K (some ⟨r, 0, none⟩) n n h') :
    nw h (.cells cs E) fun r h => oAw P (convert T T (.slice (some ⟨r, 0, none⟩) n n)) h fun v h => asSl v fun a l c => K a l c h := by
  refine nw_to ?_
  intro r h1 hr hh1
  have hb : h1 r = some (.cells cs E) := by rw [hh1]; exact Hp.set_same _ _ _
  unfold oAw convert
  refine aw_bind' (aw_und hB.und ?_)
  refine aw_bind' (aw_und hB.und ?_)
  dsimp only
  refine aw_bind' (aw_und hB.el ?_)
  have e0 : (T == T) = true := by simp
  rw [e0]
  dsimp only
  refine aw_bind' ?_
  unfold markStringish
  refine aw_bind' ?_
  have hs : shapeH h1 r = some (E, cs.size) := by simp [shapeH, hb]
  show aw P (match shapeH h1 r with | some (_, n) => freeze { block := r, off := n } 1 | _ => pure ()) _ h1
  rw [hs]
  show aw P (freeze { block := r, off := cs.size } 1) _ h1
  simp only [freeze, aw, hb]
  have hne : ¬ (1 = 0) := by omega
  rw [if_neg hne]
  refine aw_pure ?_
  have hsz : cs.size = n := by rw [hcs, hn]; simp
  have hset : h1.set r (.cells cs E (if ((0 : Nat) == 0) = true then (cs.size, cs.size + 1) else (min 0 cs.size, max 0 (cs.size + 1)))) = h.set r (.cells cs E (n, n + 1)) := by
    rw [hh1, Hp.set_set, hsz]; rfl
  refine asSl_i ?_
  show K _ _ _ (h1.set r _)
  rw [hset]
  refine H (o.set r t) _ r hr ⟨by simp [hn], Nat.le_refl _, .inr ⟨r, 0, cs, E, (n, n + 1), rfl, Own.set_same _ _ _, Hp.set_same _ _ _, ?_, by omega, ?_⟩⟩ (Step.new _ _ hr)
  · intro i x hx
    rw [Nat.zero_add, hcs]
    simpa using hx
  · intro i hi
    simp
    omega
end Go.H
namespace Go.H
theorem str_append (a b : List UInt8) : str a ++ str b = str (a ++ b) := by
  apply ByteArray.ext
  simp [str, ByteArray.data_append]
theorem str_extract (l : List UInt8) (a b : Nat) : (str l).extract a b = str ((l.take b).drop a) := by
  apply ByteArray.ext
  rw [ByteArray.data_extract]
  simp only [str]
  rw [List.extract_toArray]
  congr 1
  rw [List.extract_eq_take_drop, List.drop_take]
theorem str_add {P : Program} {t : TypeId} {h : Hp} {c : Bool} {a b : List UInt8} {K : ByteArray → Prop} (hl : a.length + b.length ≤ 9223372036854775807) (H : K (str (a ++ b))) :
    oRd P (sBin .add t c (.string (str a)) (.string (str b))) h fun v => asStr v K := by
  refine oRd_i (v := .string (str (a ++ b))) ?_ H
  have e : Op.stringOp .add (str a) (str b) = pure (.string (str (a ++ b))) := by
    unfold Op.stringOp
    dsimp only
    rw [str_size, str_size, if_neg (by have hM : IntKind.i64.max = 9223372036854775807 := rfl
                                       rw [hM]; omega), str_append]
  change rd P (Sem.bind (Sem.pure ()) fun _ => Op.stringOp .add (str a) (str b)) h = _
  rw [rd_bind, e]
  rfl
theorem str_hi {P : Program} {T S e : Nat} {h : Hp} {k : IntKind} {x : Int} {l : List UInt8} {K : ByteArray → Prop} (hB : BytesT P T S e) (h0 : 0 ≤ x) (h1 : x ≤ l.length) (H : K (str (l.take x.toNat))) :
    oRd P (Instr.sliceAt S (.string (str l)) none (some (.int k x)) none) h fun v => asStr v K := by
  refine oRd_i (v := .string (str (l.take x.toNat))) ?_ H
  unfold Instr.sliceAt
  refine rd_b (rd_und.trans hB.st) ?_
  dsimp only
  unfold Instr.slice
  refine rd_b (rd_und.trans hB.st) ?_
  dsimp only
  rw [str_size]
  refine rd_b (a := (0, x.toNat, l.length)) ?_ ?_
  · unfold Instr.sliceBounds
    refine rd_b (a := l.length) rfl ?_
    refine rd_b (rd_bound h0 h1) ?_
    rfl
  · simp [rd, Pure.pure, str_extract]
theorem str_lo {P : Program} {T S e : Nat} {h : Hp} {k : IntKind} {x : Int} {l : List UInt8} {K : ByteArray → Prop} (hB : BytesT P T S e) (h0 : 0 ≤ x) (h1 : x ≤ l.length) (H : K (str (l.drop x.toNat))) :
    oRd P (Instr.sliceAt S (.string (str l)) (some (.int k x)) none none) h fun v => asStr v K := by
  refine oRd_i (v := .string (str (l.drop x.toNat))) ?_ H
  unfold Instr.sliceAt
  refine rd_b (rd_und.trans hB.st) ?_
  dsimp only
  unfold Instr.slice
  refine rd_b (rd_und.trans hB.st) ?_
  dsimp only
  rw [str_size]
  refine rd_b (a := (x.toNat, l.length, l.length)) ?_ ?_
  · unfold Instr.sliceBounds
    refine rd_b (a := l.length) rfl ?_
    refine rd_b (a := l.length) rfl ?_
    refine rd_b (rd_bound h0 h1) ?_
    rfl
  · simp [rd, Pure.pure, str_extract]
theorem str_lohi {P : Program} {T S e : Nat} {h : Hp} {k k' : IntKind} {x y : Int} {l : List UInt8} {K : ByteArray → Prop} (hB : BytesT P T S e) (h0 : 0 ≤ x) (h1 : x ≤ y) (h2 : y ≤ l.length) (H : K (str ((l.take y.toNat).drop x.toNat))) :
    oRd P (Instr.sliceAt S (.string (str l)) (some (.int k x)) (some (.int k' y)) none) h fun v => asStr v K := by
  refine oRd_i (v := .string (str ((l.take y.toNat).drop x.toNat))) ?_ H
  unfold Instr.sliceAt
  refine rd_b (rd_und.trans hB.st) ?_
  dsimp only
  unfold Instr.slice
  refine rd_b (rd_und.trans hB.st) ?_
  dsimp only
  rw [str_size]
  refine rd_b (a := (x.toNat, y.toNat, l.length)) ?_ ?_
  · unfold Instr.sliceBounds
    refine rd_b (a := l.length) rfl ?_
    refine rd_b (rd_bound (by omega) h2) ?_
    refine rd_b (rd_bound h0 (by omega)) ?_
    rfl
  · simp [rd, Pure.pure, str_extract]
end Go.H
