import Derived.Test.YtcolhmddhaabnaaDoorWal
import Derived.Test.YtcolhmddhaabnaaDoorKeep
set_option linter.unusedVariables false
set_option maxRecDepth 100000
namespace Go.Proofs.YtcolhmddhaabnaaDoor
open Go.H
/-! ### Numbers in bytes -/
theorem byI_val {v : Int} (h : 0 ≤ v) : ((byI v).toNat : Int) = v % 256 := by
  unfold byI
  have h1 := wrap_u8 v
  have h2 : IntKind.u8.wrap v = v % 256 := by
    unfold IntKind.wrap
    simp [IntKind.bits, IntKind.signed]
  rw [UInt8.toNat_ofNat', h2]
  omega
theorem sShr_val {v : Int} (h : 0 ≤ v) (k : Nat) (hk : k ≤ 64) : sShr .i64 v k = v / 2 ^ k := by
  unfold sShr
  have : min ((k : Int).toNat) (IntKind.i64).bits = k := by show min ((k : Int).toNat) 64 = k; rw [Int.toNat_natCast]; omega
  rw [this, Int.fdiv_eq_ediv_of_nonneg _ (by exact Int.le_of_lt (Int.pow_pos (by omega)))]
theorem bAt_app {p q : Bytes} {i : Nat} (h : p.length ≤ i) : bAt (p ++ q) i = bAt q (i - p.length) := by
  unfold bAt
  simp only [List.getD_eq_getElem?_getD]
  rw [List.getElem?_append_right h]
theorem bAt_app_l {p q : Bytes} {i : Nat} (h : i < p.length) : bAt (p ++ q) i = bAt p i := by
  unfold bAt
  simp only [List.getD_eq_getElem?_getD]
  rw [List.getElem?_append_left h]
theorem bAt_ext {b b' : Bytes} {k i : Nat} (h : b.take k = b'.take k) (hi : i < k) : bAt b i = bAt b' i := by
  unfold bAt
  simp only [List.getD_eq_getElem?_getD]
  have h1 : (b.take k)[i]? = b[i]? := by rw [List.getElem?_take, if_pos hi]
  have h2 : (b'.take k)[i]? = b'[i]? := by rw [List.getElem?_take, if_pos hi]
  rw [← h1, ← h2, h]
theorem numAt_ext {b b' : Bytes} {k p : Nat} (h : b.take k = b'.take k) (hp : p + 4 ≤ k) : numAt b p = numAt b' p := by
  rw [numAt_val, numAt_val, bAt_ext h (i := p) (by omega), bAt_ext h (i := p + 1) (by omega), bAt_ext h (i := p + 2) (by omega), bAt_ext h (i := p + 3) (by omega)]
theorem numAt_numB {v : Int} {q : Bytes} (h0 : 0 ≤ v) (h1 : v < 4294967296) : numAt (numB v ++ q) 0 = v := by
  rw [numAt_val, bAt_app_l (by rw [numB_len]; omega), bAt_app_l (by rw [numB_len]; omega), bAt_app_l (by rw [numB_len]; omega), bAt_app_l (by rw [numB_len]; omega)]
  have e0 : bAt (numB v) 0 = ((byI (sShr .i64 v 24)).toNat : Int) := rfl
  have e1 : bAt (numB v) (0 + 1) = ((byI (sShr .i64 v 16)).toNat : Int) := rfl
  have e2 : bAt (numB v) (0 + 2) = ((byI (sShr .i64 v 8)).toNat : Int) := rfl
  have e3 : bAt (numB v) (0 + 3) = ((byI v).toNat : Int) := rfl
  have s24 : sShr .i64 v 24 = v / 2 ^ 24 := sShr_val h0 24 (by omega)
  have s16 : sShr .i64 v 16 = v / 2 ^ 16 := sShr_val h0 16 (by omega)
  have s8 : sShr .i64 v 8 = v / 2 ^ 8 := sShr_val h0 8 (by omega)
  rw [e0, e1, e2, e3, s24, s16, s8, byI_val (by omega), byI_val (by omega), byI_val (by omega), byI_val h0]
  omega
theorem numAt_app {p q : Bytes} {i : Nat} (h : p.length ≤ i) : numAt (p ++ q) i = numAt q (i - p.length) := by
  rw [numAt_val, numAt_val, bAt_app (by omega), bAt_app (by omega), bAt_app (by omega), bAt_app (by omega)]
  rw [show i + 1 - p.length = i - p.length + 1 by omega, show i + 2 - p.length = i - p.length + 2 by omega, show i + 3 - p.length = i - p.length + 3 by omega]
/-! ### What next says depends on the record's own bytes alone -/
theorem take_drop_ext {b b' : Bytes} {k x y : Nat} (h : b.take k = b'.take k) (hy : x + y ≤ k) : (b.drop x).take y = (b'.drop x).take y := by
  have e : ∀ l : Bytes, (l.drop x).take y = ((l.take k).drop x).take y := by
    intro l
    rw [List.drop_take, List.take_take, Nat.min_eq_left (by omega)]
  rw [e b, e b', h]
theorem nextF_ext {c : ShaC} {b b' : Bytes} {gen n : Int} {t : Bytes} (h : nextF c b gen n = some t) (he : b.take (20 + t.length) = b'.take (20 + t.length)) (hl : 20 + t.length ≤ b'.length) : nextF c b' gen n = some t := by
  have hs := nextF_some h
  unfold nextF at h ⊢
  by_cases h1 : b.length < 20 ∨ numAt b 0 ≠ gen ∨ numAt b 4 ≠ n
  · rw [if_pos h1] at h; cases h
  rw [if_neg h1] at h
  by_cases h2 : numAt b 8 > 16384 ∨ numAt b 8 > (b.length : Int) - 20
  · rw [if_pos h2] at h; cases h
  rw [if_neg h2] at h
  have hr := numAt_range b 8
  by_cases h3 : (sumB c gen n ((b.drop 20).take (numAt b 8).toNat) == (b.drop 12).take 8) = true
  · rw [if_pos h3] at h
    cases h
    have hlen : ((b.drop 20).take (numAt b 8).toNat).length = (numAt b 8).toNat := by simp; omega
    rw [hlen] at he hl hs
    have e0 := numAt_ext (p := 0) he (by omega)
    have e4 := numAt_ext (p := 4) he (by omega)
    have e8 := numAt_ext (p := 8) he (by omega)
    have e20 := take_drop_ext (x := 20) (y := (numAt b 8).toNat) he (by omega)
    have e12 := take_drop_ext (x := 12) (y := 8) he (by omega)
    rw [← e0, ← e4, ← e8, ← e20, ← e12]
    rw [if_neg (by intro hh; rcases hh with hh | hh | hh; omega; exact h1 (.inr (.inl hh)); exact h1 (.inr (.inr hh))), if_neg (by omega), if_pos h3]
  · rw [if_neg h3] at h; cases h
theorem nextF_rec {c : ShaC} {gen : Int} {n : Nat} {t q : Bytes} (hg : 0 ≤ gen ∧ gen < 4294967296) (hn : n < 4294967296) (ht : t.length ≤ 16384) : nextF c (recB c gen n t ++ q) gen n = some t := by
  have e0 : numAt (recB c gen n t ++ q) 0 = gen := by
    unfold recB; rw [List.append_assoc]; exact numAt_numB hg.1 hg.2
  have e4 : numAt (recB c gen n t ++ q) 4 = n := by
    unfold recB
    simp only [List.append_assoc]
    rw [numAt_app (by rw [numB_len]; omega)]
    exact numAt_numB (by omega) (by omega)
  have e8 : numAt (recB c gen n t ++ q) 8 = (t.length : Int) := by
    unfold recB
    simp only [List.append_assoc]
    rw [numAt_app (by rw [numB_len]; omega), numAt_app (by rw [numB_len, numB_len]; omega)]
    exact numAt_numB (by omega) (by omega)
  have el : (recB c gen n t ++ q).length = 20 + t.length + q.length := by rw [List.length_append, recB_len]
  have d20 : ((recB c gen n t ++ q).drop 20).take t.length = t := by
    have : recB c gen n t ++ q = (numB gen ++ numB n ++ numB t.length ++ sumB c gen n t) ++ (t ++ q) := by simp [recB]
    rw [this, List.drop_left' (by simp [numB_len, sumB_len]), List.take_left' rfl]
  have d12 : ((recB c gen n t ++ q).drop 12).take 8 = sumB c gen n t := by
    have : recB c gen n t ++ q = (numB gen ++ numB n ++ numB t.length) ++ (sumB c gen n t ++ (t ++ q)) := by simp [recB]
    rw [this, List.drop_left' (by simp [numB_len]), List.take_left' (by simp [sumB_len])]
  unfold nextF
  rw [e0, e4, e8, el, if_neg (by intro hh; rcases hh with hh | hh | hh; omega; exact hh rfl; exact hh rfl), if_neg (by omega), Int.toNat_natCast, d20, d12, if_pos (by simp)]
theorem nextF_nil {c : ShaC} {gen n : Int} : nextF c [] gen n = none := by unfold nextF; rw [if_pos (.inl (by simp))]
theorem lenR_cons (t : Bytes) (l : List Bytes) : lenR (t :: l) = 20 + t.length + lenR l := by simp [lenR]
theorem recsL_nil (c : ShaC) (gen : Int) (n : Nat) : recsL c gen [] n = [] := recsL_none nextF_nil
/-- The records take as much as there is at most; what they take alone says as much; what stands behind them is read on. -/
theorem recsL_le (c : ShaC) (gen : Int) : ∀ (b : Bytes) (n : Nat), lenR (recsL c gen b n) ≤ b.length := by
  intro b n
  induction b, n using recsL.induct c gen with
  | case1 b n h => rw [recsL_none h]; simp [lenR]
  | case2 b n t h ih =>
    have hs := nextF_some h
    rw [recsL_some h, lenR_cons]
    simp only [List.length_drop] at ih
    omega
theorem recsL_each (c : ShaC) (gen : Int) : ∀ (b : Bytes) (n : Nat), ∀ t ∈ recsL c gen b n, t.length ≤ 16384 := by
  intro b n
  induction b, n using recsL.induct c gen with
  | case1 b n h => rw [recsL_none h]; simp
  | case2 b n t h ih =>
    have hs := nextF_some h
    rw [recsL_some h]
    intro t' ht'
    rcases List.mem_cons.1 ht' with rfl | ht'
    · exact hs.2
    · exact ih t' ht'
theorem recsL_take (c : ShaC) (gen : Int) : ∀ (b : Bytes) (n : Nat), recsL c gen (b.take (lenR (recsL c gen b n))) n = recsL c gen b n := by
  intro b n
  induction b, n using recsL.induct c gen with
  | case1 b n h => rw [recsL_none h]; simp [lenR, recsL_nil]
  | case2 b n t h ih =>
    have hs := nextF_some h
    rw [recsL_some h, lenR_cons]
    have h2 : nextF c (b.take (20 + t.length + lenR (recsL c gen (b.drop (20 + t.length)) (n + 1)))) gen n = some t := by
      refine nextF_ext h ?_ ?_
      · rw [List.take_take, Nat.min_eq_left (by omega)]
      · simp; omega
    rw [recsL_some h2, List.drop_take]
    rw [show 20 + t.length + lenR (recsL c gen (b.drop (20 + t.length)) (n + 1)) - (20 + t.length) = lenR (recsL c gen (b.drop (20 + t.length)) (n + 1)) by omega]
    rw [ih]
theorem recsL_append (c : ShaC) (gen : Int) (x : Bytes) : ∀ (b : Bytes) (n : Nat), lenR (recsL c gen b n) = b.length → recsL c gen (b ++ x) n = recsL c gen b n ++ recsL c gen x (n + (recsL c gen b n).length) := by
  intro b n
  induction b, n using recsL.induct c gen with
  | case1 b n h =>
    intro hl
    rw [recsL_none h] at hl ⊢
    have : b = [] := List.length_eq_zero_iff.1 (by simpa [lenR] using hl.symm)
    subst this
    rfl
  | case2 b n t h ih =>
    intro hl
    have hs := nextF_some h
    rw [recsL_some h] at hl ⊢
    rw [lenR_cons] at hl
    have h2 : nextF c (b ++ x) gen n = some t := by
      refine nextF_ext h ?_ (by simp; omega)
      rw [List.take_append_of_le_length hs.1]
    rw [recsL_some h2, List.drop_append_of_le_length hs.1, ih (by simp; omega)]
    simp only [List.length_cons, List.cons_append]
    rw [show n + 1 + (recsL c gen (b.drop (20 + t.length)) (n + 1)).length = n + ((recsL c gen (b.drop (20 + t.length)) (n + 1)).length + 1) by omega]
theorem recsL_one {c : ShaC} {gen : Int} {n : Nat} {t : Bytes} (hg : 0 ≤ gen ∧ gen < 4294967296) (hn : n < 4294967296) (ht : t.length ≤ 16384) : recsL c gen (recB c gen n t) n = [t] := by
  have h := nextF_rec (c := c) (q := []) hg hn ht
  rw [List.append_nil] at h
  rw [recsL_some h, ← recB_len c gen n t, List.drop_length, recsL_nil]
theorem goodF_snap {c : ShaC} {g : Int} {t : Bytes} (h1 : 1 ≤ g) (h2 : g ≤ 2147483647) (ht : t.length < 4294967296) : goodF c (snapB c g t) = some (g, t) := by
  have e0 : numAt (snapB c g t) 0 = g := numAt_numB (by omega) (by omega)
  have e4 : numAt (snapB c g t) 4 = (t.length : Int) := by
    unfold snapB
    rw [numAt_app (by rw [numB_len]; omega)]
    exact numAt_numB (by omega) (by omega)
  have el := snapB_len c g t
  have d16 : ((snapB c g t).drop 16).take t.length = t := by
    have : snapB c g t = (numB g ++ numB t.length ++ sumB c g t.length t) ++ t := by simp [snapB]
    rw [this, List.drop_left' (by simp [numB_len, sumB_len]), List.take_length]
  have d8 : ((snapB c g t).drop 8).take 8 = sumB c g t.length t := by
    have : snapB c g t = (numB g ++ numB t.length) ++ (sumB c g t.length t ++ t) := by simp [snapB]
    rw [this, List.drop_left' (by simp [numB_len]), List.take_left' (by simp [sumB_len])]
  unfold goodF
  rw [e0, e4, el, if_neg (by omega), if_neg (by omega), Int.toNat_natCast, d16, d8, if_pos (by simp)]
end Go.Proofs.YtcolhmddhaabnaaDoor
set_option linter.unusedVariables false
set_option maxRecDepth 100000
namespace Go.Proofs.YtcolhmddhaabnaaDoor
open Go.H
/-! ### The log's law, while the power stays -/
/-- The disk's contents show the log. -/
structure Shows (c : ShaC) (m : Nat → Bytes) (L : LS) : Prop where
  dead : L.dead = false
  gen : L.gen = (picks c ⟨0, m, m, [], false, 0, false⟩ 2).gen
  slot : L.slot = (picks c ⟨0, m, m, [], false, 0, false⟩ 2).slot
  text : L.text = (picks c ⟨0, m, m, [], false, 0, false⟩ 2).text
  recs : L.recs = recsL c L.gen (m 2) 0
  fin : L.fin = (m 2).length
  sum : lenR L.recs = L.fin
abbrev dsOf (m : Nat → Bytes) : DS := ⟨0, m, m, [], false, 0, false⟩
theorem picks_seen (c : ShaC) {D D' : DS} (h : ∀ k, k < 2 → D.seen k = D'.seen k) : ∀ n, n ≤ 2 → picks c D n = picks c D' n
  | 0, _ => rfl
  | n + 1, hn => by simp only [picks]; rw [picks_seen c h n (by omega), h n (by omega)]
theorem Shows.load {c : ShaC} {D : DS} {L : LS} (h : Shows c D.seen L) : loadL c D = L := by
  have hp : picks c (dsOf D.seen) 2 = picks c D 2 := picks_seen c (fun _ _ => rfl) 2 (Nat.le_refl _)
  have hr := picks_rest c D 2
  have e1 := h.gen; have e2 := h.slot; have e3 := h.text
  rw [show (⟨0, D.seen, D.seen, [], false, 0, false⟩ : DS) = dsOf D.seen from rfl, hp] at e1 e2 e3
  unfold loadL
  rw [← e1, ← h.recs, h.sum]
  have : ({ picks c D 2 with recs := L.recs, fin := L.fin } : LS) = ⟨(picks c D 2).gen, (picks c D 2).slot, (picks c D 2).text, L.recs, L.fin, (picks c D 2).dead⟩ := rfl
  rw [this, ← e1, ← e2, ← e3, hr.2.2, ← h.dead]
theorem loadL_shows (c : ShaC) (D : DS) {m : Nat → Bytes} (h : ∀ k, k < 2 → m k = D.seen k) (h2 : m 2 = (D.seen 2).take (loadL c D).fin) : Shows c m (loadL c D) := by
  have hp : picks c (dsOf m) 2 = picks c D 2 := picks_seen c h 2 (Nat.le_refl _)
  have hr := picks_rest c D 2
  have hfin : (loadL c D).fin = lenR (recsL c (picks c D 2).gen (D.seen 2) 0) := rfl
  have hle := recsL_le c (picks c D 2).gen (D.seen 2) 0
  refine ⟨hr.2.2, ?_, ?_, ?_, ?_, ?_, rfl⟩
  · rw [show (⟨0, m, m, [], false, 0, false⟩ : DS) = dsOf m from rfl, hp]; rfl
  · rw [show (⟨0, m, m, [], false, 0, false⟩ : DS) = dsOf m from rfl, hp]; rfl
  · rw [show (⟨0, m, m, [], false, 0, false⟩ : DS) = dsOf m from rfl, hp]; rfl
  · rw [h2, hfin]
    exact (recsL_take c (picks c D 2).gen (D.seen 2) 0).symm
  · rw [h2, hfin]; simp; omega
structure Good (c : ShaC) (D : DS) (L : LS) : Prop where
  calm : Calm D
  shows : Shows c D.seen L
  waits : D.waits.length ≤ 10
theorem cut_calm {D : DS} (h : Calm D) {area n : Int} (ha : 0 ≤ area ∧ area < 3) (hn : 0 ≤ n ∧ n ≤ szD D area) : cutD D area n = ({ D with waits := D.waits ++ [⟨area.toNat, n.toNat, [], true⟩], seen := doI D.seen ⟨area.toNat, n.toNat, [], true⟩ }, 0) := by
  unfold cutD
  rw [if_pos ⟨ha, hn.1, hn.2⟩, h.wait, h.go]
  rfl
theorem cs_calm {D : DS} (h : Calm D) {area : Int} (ha : 0 ≤ area ∧ area < 3) : csD D area = ({ D with sure := doI D.seen ⟨area.toNat, 0, [], true⟩, waits := [], seen := doI D.seen ⟨area.toNat, 0, [], true⟩ }, 0) := by
  unfold csD
  rw [cut_calm h ha ⟨by omega, by omega⟩]
  rw [if_neg (by simp)]
  rw [Calm.sync (by exact h)]
  rfl
theorem ws_calm {D : DS} (h : Calm D) {area pos : Int} {l : Bytes} (ha : 0 ≤ area ∧ area < 3) (hp : 0 ≤ pos ∧ pos ≤ szD D area) (hf : ¬ pos + l.length - szD D area > max 0 (freeD D)) :
    wsD D area pos l = ({ D with sure := doI D.seen ⟨area.toNat, pos.toNat, l, false⟩, waits := [], seen := doI D.seen ⟨area.toNat, pos.toNat, l, false⟩ }, 0) := by
  have hw : writeD D area pos l = ({ D with waits := D.waits ++ [⟨area.toNat, pos.toNat, l, false⟩], seen := doI D.seen ⟨area.toNat, pos.toNat, l, false⟩ }, 0) := by
    unfold writeD
    rw [if_pos ⟨ha, hp.1, hp.2⟩, if_neg hf, h.wait, h.go]
    rfl
  unfold wsD
  rw [hw, if_neg (by simp), Calm.sync (by exact h)]
theorem doI_cut (m : Nat → Bytes) (a : Nat) : doI m ⟨a, 0, [], true⟩ = fun k => if k = a then [] else m k := by
  funext k; unfold doI Ch.on; simp
theorem doI_end (m : Nat → Bytes) (a p : Nat) (l : Bytes) (hp : p = (m a).length) : doI m ⟨a, p, l, false⟩ = fun k => if k = a then m a ++ l else m k := by
  funext k; unfold doI Ch.on
  by_cases h : k = a
  · subst h; simp only [if_true]; rw [hp]; exact splice_end _ _
  · rw [if_neg h, if_neg h]
theorem open_good {c : ShaC} {D : DS} (h : Calm D) (hw : D.waits.length ≤ 10) : ∃ D' L, openD c D = (D', some L, 0) ∧ Good c D' L ∧ (L.fin = szD D 2 → D' = D) ∧ D'.room = D.room := by
  have hle := recsL_le c (picks c D 2).gen (D.seen 2) 0
  have hfin : (loadL c D).fin = lenR (recsL c (picks c D 2).gen (D.seen 2) 0) := rfl
  have hsz : szD D 2 = (D.seen 2).length := by unfold szD; rw [if_pos (by omega)]; rfl
  unfold openD
  rw [if_neg (by rw [h.2]; simp)]
  by_cases he : (loadL c D).fin = szD D 2
  · rw [if_pos he]
    refine ⟨D, loadL c D, rfl, ⟨h, loadL_shows c D (fun _ _ => rfl) ?_, hw⟩, fun _ => rfl, rfl⟩
    rw [he, hsz, List.take_length]
  · rw [if_neg he, cut_calm h (by omega) ⟨by omega, by rw [hsz]; omega⟩, if_neg (by simp), Calm.sync (by exact h), if_neg (by simp)]
    refine ⟨_, _, rfl, ⟨h, loadL_shows c D ?_ ?_, by simp⟩, fun hh => absurd hh he, rfl⟩
    · intro k hk
      show doI D.seen ⟨(2 : Int).toNat, ((loadL c D).fin : Int).toNat, [], true⟩ k = _
      unfold doI
      rw [if_neg (by show ¬ k = 2; omega)]
    · show doI D.seen ⟨(2 : Int).toNat, ((loadL c D).fin : Int).toNat, [], true⟩ 2 = _
      unfold doI Ch.on
      simp
theorem append_good {c : ShaC} {D : DS} {L : LS} {t : Bytes} (h : Good c D L) (hok : L.Ok) : Good c (appD c D L t).1 (appD c D L t).2.1 ∧ (appD c D L t).1.room = D.room ∧
    ((appD c D L t).2.2 = 0 → (appD c D L t).1.waits = [] ∧ (appD c D L t).1.sure = (appD c D L t).1.seen ∧ (appD c D L t).2.1.recs = L.recs ++ [t] ∧ (appD c D L t).2.1.text = L.text ∧ (appD c D L t).2.1.gen = L.gen) ∧ (t.length ≤ 16384 → (20 : Int) + t.length ≤ freeD D → (appD c D L t).2.2 = 0) := by
  have hs := h.shows
  have hsz : szD D 2 = (D.seen 2).length := by unfold szD; rw [if_pos (by omega)]; rfl
  unfold appD
  rw [if_neg (by rw [hs.dead]; simp)]
  by_cases h1 : t.length > 16384
  · rw [if_pos h1]; exact ⟨h, rfl, fun hh => by simp at hh, fun hh => by omega⟩
  rw [if_neg h1]
  by_cases h2 : (20 : Int) + t.length > freeD D
  · rw [if_pos h2]; exact ⟨h, rfl, fun hh => by simp at hh, fun _ hh => by omega⟩
  rw [if_neg h2]
  have hlen := recB_len c L.gen L.recs.length t
  rw [ws_calm h.calm (by omega) ⟨by omega, by rw [hsz, hs.fin]; omega⟩ (by rw [hsz, hs.fin]; omega), if_neg (by simp)]
  have e2 : (2 : Int).toNat = 2 := rfl
  rw [e2, Int.toNat_natCast, doI_end _ _ _ _ hs.fin]
  refine ⟨⟨h.calm, ⟨hs.dead, ?_, ?_, ?_, ?_, ?_, ?_⟩, by simp⟩, rfl, fun _ => ⟨rfl, rfl, rfl, rfl, rfl⟩, fun _ _ => rfl⟩
  · refine hs.gen.trans (congrArg LS.gen (picks_seen c (fun k hk => ?_) 2 (Nat.le_refl _)))
    simp only; rw [if_neg (by omega)]
  · refine hs.slot.trans (congrArg LS.slot (picks_seen c (fun k hk => ?_) 2 (Nat.le_refl _)))
    simp only; rw [if_neg (by omega)]
  · refine hs.text.trans (congrArg LS.text (picks_seen c (fun k hk => ?_) 2 (Nat.le_refl _)))
    simp only; rw [if_neg (by omega)]
  · simp only [if_true]
    have hg := hok.gen
    have hrl := hok.recs
    have h3 := recsL_append c L.gen (recB c L.gen L.recs.length t) (D.seen 2) 0 (by rw [← hs.recs, hs.sum, hs.fin])
    rw [← hs.recs, Nat.zero_add, recsL_one ⟨by omega, by omega⟩ (by omega) (by omega)] at h3
    exact h3.symm
  · simp only [if_true]
    rw [List.length_append, hlen, ← hs.fin]
  · simp only
    rw [lenR_snoc, hs.sum]
/-- No good snapshot has a greater generation than the one that counts. -/
theorem picks_mono (c : ShaC) (D : DS) : ∀ n k, k < n → ∀ g t, goodF c (D.seen k) = some (g, t) → g ≤ (picks c D n).gen := by
  intro n
  induction n with
  | zero => intro k hk; omega
  | succ n ih =>
    intro k hk g t hg
    have step : (picks c D n).gen ≤ (picks c D (n + 1)).gen := by
      simp only [picks, pickS]
      split
      · split
        · simp only; omega
        · exact Int.le_refl _
      · exact Int.le_refl _
    by_cases h : k < n
    · exact Int.le_trans (ih k h g t hg) step
    · obtain rfl : k = n := by omega
      simp only [picks, pickS]
      rw [hg]
      simp only
      split
      · exact Int.le_refl _
      · omega
theorem picks_new {c : ShaC} {m : Nat → Bytes} {L : LS} {g s : Int} {t : Bytes} {m' : Nat → Bytes} (hs : Shows c m L) (hg : g = L.gen + 1) (hg0 : 0 ≤ L.gen) (hg1 : g ≤ 2147483647) (hsl : s = 0 ∨ s = 1) (ht : t.length < 4294967296)
    (h1 : m' s.toNat = snapB c g t) (h2 : ∀ k, k < 2 → k ≠ s.toNat → m' k = m k) : (picks c (dsOf m') 2).gen = g ∧ (picks c (dsOf m') 2).slot = s ∧ (picks c (dsOf m') 2).text = t := by
  have hgd := goodF_snap (c := c) (g := g) (t := t) (by omega) hg1 ht
  have old : ∀ k, k < 2 → ∀ g' t', goodF c (m k) = some (g', t') → g' ≤ L.gen := by
    intro k hk g' t' hh
    rw [hs.gen]
    exact picks_mono c (dsOf m) 2 k hk g' t' hh
  rcases hsl with rfl | rfl
  · have e1 : picks c (dsOf m') 1 = ⟨g, 0, t, [], 0, false⟩ := by
      show pickS c L0 (0 : Nat) (m' 0) = _
      unfold pickS
      rw [show m' 0 = snapB c g t from h1, hgd]
      simp only
      rw [if_pos (by show g > 0; omega)]
      rfl
    have e2 : picks c (dsOf m') 2 = ⟨g, 0, t, [], 0, false⟩ := by
      show pickS c (picks c (dsOf m') 1) (1 : Nat) (m' 1) = _
      rw [e1]
      unfold pickS
      rw [h2 1 (by omega) (by decide)]
      split
      · rename_i g' t' hh
        have := old 1 (by omega) g' t' hh
        rw [if_neg (by simp only; omega)]
      · rfl
    rw [e2]; exact ⟨rfl, rfl, rfl⟩
  · have hle : (picks c (dsOf m') 1).gen ≤ L.gen := by
      show (pickS c L0 (0 : Nat) (m' 0)).gen ≤ _
      unfold pickS
      rw [h2 0 (by omega) (by decide)]
      split
      · rename_i g' t' hh
        have := old 0 (by omega) g' t' hh
        split
        · exact this
        · exact hg0
      · exact hg0
    have hr := picks_rest c (dsOf m') 1
    have e2 : picks c (dsOf m') 2 = { picks c (dsOf m') 1 with gen := g, slot := 1, text := t } := by
      show pickS c (picks c (dsOf m') 1) (1 : Nat) (m' 1) = _
      unfold pickS
      rw [show m' 1 = snapB c g t from h1, hgd]
      simp only
      rw [if_pos (by omega)]
      rfl
    rw [e2]; exact ⟨rfl, rfl, rfl⟩
def mSnap (m : Nat → Bytes) (s : Nat) (x : Bytes) : Nat → Bytes := fun k => if k = 2 then [] else if k = s then x else m k
theorem sw_calm {c : ShaC} {D : DS} {g s : Int} {t : Bytes} (h : Calm D) (hs : s = 0 ∨ s = 1) (hf : ¬ ((snapB c g t).length : Int) - szD D s > freeD D) :
    swD c D g s t = ({ D with sure := mSnap D.seen s.toNat (snapB c g t), waits := [], seen := mSnap D.seen s.toNat (snapB c g t) }, 0) := by
  have hs3 : 0 ≤ s ∧ s < 3 := by omega
  obtain ⟨m1, hm1⟩ : ∃ m1 : Nat → Bytes, (fun k => if k = s.toNat then [] else D.seen k) = m1 := ⟨_, rfl⟩
  have c1 : csD D s = ({ D with sure := m1, waits := [], seen := m1 }, 0) := by rw [cs_calm h hs3, doI_cut, hm1]
  have hc1 : Calm ({ D with sure := m1, waits := [], seen := m1 } : DS) := h
  have hz : szD ({ D with sure := m1, waits := [], seen := m1 } : DS) s = 0 := by
    unfold szD; rw [if_pos hs3]; simp [← hm1]
  have hfr : freeD ({ D with sure := m1, waits := [], seen := m1 } : DS) = freeD D + szD D s := by
    unfold freeD szD
    rw [if_pos hs3, ← hm1]
    rcases hs with rfl | rfl
    · simp; omega
    · simp; omega
  have w1 : wsD ({ D with sure := m1, waits := [], seen := m1 } : DS) s 0 (snapB c g t) = ({ D with sure := fun k => if k = s.toNat then m1 s.toNat ++ snapB c g t else m1 k, waits := [], seen := fun k => if k = s.toNat then m1 s.toNat ++ snapB c g t else m1 k }, 0) := by
    rw [ws_calm (pos := 0) (l := snapB c g t) hc1 hs3 ⟨by omega, by rw [hz]; omega⟩ (by rw [hz, hfr]; omega)]
    have e0 : (0 : Int).toNat = 0 := rfl
    rw [e0, doI_end _ _ _ _ (by simp [← hm1])]
  have em : (fun k => if k = (2 : Int).toNat then ([] : Bytes) else if k = s.toNat then m1 s.toNat ++ snapB c g t else m1 k) = mSnap D.seen s.toNat (snapB c g t) := by
    funext k
    unfold mSnap
    rw [← hm1]
    show (if k = 2 then _ else _) = _
    by_cases h1 : k = 2
    · rw [if_pos h1, if_pos h1]
    · rw [if_neg h1, if_neg h1]
      by_cases h2 : k = s.toNat
      · rw [if_pos h2, if_pos h2]; simp
      · rw [if_neg h2, if_neg h2]; simp only; rw [if_neg h2]
  have c2 := cs_calm (D := { D with sure := fun k => if k = s.toNat then m1 s.toNat ++ snapB c g t else m1 k, waits := [], seen := fun k => if k = s.toNat then m1 s.toNat ++ snapB c g t else m1 k }) (by exact h) (area := 2) (by omega)
  rw [doI_cut, em] at c2
  unfold swD
  rw [c1]
  rw [if_neg (by simp), w1, if_neg (by simp), c2]
theorem compact_good {c : ShaC} {D : DS} {L : LS} {t : Bytes} (h : Good c D L) (hok : L.Ok) (ht : t.length ≤ 1048576) : Good c (compD c D L t).1 (compD c D L t).2.1 ∧ (compD c D L t).1.room = D.room ∧
    ((compD c D L t).2.2 = 0 → (compD c D L t).1.waits = [] ∧ (compD c D L t).1.sure = (compD c D L t).1.seen ∧ (compD c D L t).2.1.recs = [] ∧ (compD c D L t).2.1.text = t) := by
  have hs := h.shows
  unfold compD
  rw [if_neg (by rw [hs.dead]; simp)]
  by_cases h1 : L.gen ≥ 2147483647 ∨ ((snapB c (L.gen + 1) t).length : Int) - szD D (1 - L.slot) > freeD D
  · rw [if_pos h1]; exact ⟨h, rfl, fun hh => by simp at hh⟩
  rw [if_neg h1]
  have hg := hok.gen
  have hsl := hok.slot
  rw [sw_calm h.calm (by omega) (fun hh => h1 (.inr hh)), if_neg (by simp)]
  have hp := picks_new (c := c) (g := L.gen + 1) (s := 1 - L.slot) (t := t) (m' := mSnap D.seen (1 - L.slot).toNat (snapB c (L.gen + 1) t)) hs rfl hg.1 (by omega) (by omega) (by omega)
    (by unfold mSnap; rw [if_neg (by omega), if_pos rfl]) (fun k hk hk2 => by unfold mSnap; rw [if_neg (by omega), if_neg hk2])
  refine ⟨⟨h.calm, ⟨hs.dead, hp.1.symm, hp.2.1.symm, hp.2.2.symm, ?_, ?_, rfl⟩, by simp⟩, rfl, fun _ => ⟨rfl, rfl, rfl, rfl⟩⟩
  · simp only [mSnap, if_true]; exact (recsL_nil _ _ _).symm
  · simp [mSnap]
/-- What is opened again is the same. -/
theorem open_again {c : ShaC} {D : DS} {L : LS} (h : Good c D L) : openD c D = (D, some L, 0) := by
  have hl := h.shows.load
  have hsz : szD D 2 = (D.seen 2).length := by unfold szD; rw [if_pos (by omega)]; rfl
  unfold openD
  rw [if_neg (by rw [h.calm.2]; simp), hl, if_pos (by rw [hsz]; exact h.shows.fin)]
end Go.Proofs.YtcolhmddhaabnaaDoor
