import Derived.Test.YtcolhmddhaabnaaDoorAg0
set_option linter.unusedVariables false
set_option maxRecDepth 100000
namespace Go.Proofs.YtcolhmddhaabnaaDoor
open Go.H
/-! ### The log's law, wherever the power goes -/
structure Base (D : DS) (m : Nat → Bytes) : Prop where
  sure : D.sure = m
  seen : D.seen = m
  waits : D.waits = []
  live : D.gone = false
/-- One change, and a sync behind it. -/
def opD (D : DS) (ch : Ch) : DS × Nat := if goneD D then (unitD D, 3) else syncD (waitD D ch)
theorem waitD_gone {D : DS} (h : goneD D = true) (ch : Ch) : waitD D ch = unitD D := by unfold waitD; rw [if_pos h]
theorem cs_op {D : DS} {area : Int} (ha : 0 ≤ area ∧ area < 3) : csD D area = opD D ⟨area.toNat, 0, [], true⟩ := by
  have hc : cutD D area 0 = (waitD D ⟨area.toNat, 0, [], true⟩, if goneD D then 3 else 0) := by
    unfold cutD; rw [if_pos ⟨ha, by omega, by omega⟩]; rfl
  unfold csD opD
  rw [hc]
  by_cases h : goneD D = true
  · simp only [h, if_true]
    rw [waitD_gone h]; simp
  · simp only [h]; simp
theorem ws_op {D : DS} {area pos : Int} {l : Bytes} (ha : 0 ≤ area ∧ area < 3) (hp : 0 ≤ pos ∧ pos ≤ szD D area) (hf : ¬ pos + l.length - szD D area > max 0 (freeD D)) : wsD D area pos l = opD D ⟨area.toNat, pos.toNat, l, false⟩ := by
  have hc : writeD D area pos l = (waitD D ⟨area.toNat, pos.toNat, l, false⟩, if goneD D then 3 else 0) := by
    unfold writeD; rw [if_pos ⟨ha, hp.1, hp.2⟩, if_neg hf]
  unfold wsD opD
  rw [hc]
  by_cases h : goneD D = true
  · simp only [h, if_true]
    rw [waitD_gone h]; simp
  · simp only [h]; simp
/-- What the crash leaves. -/
def Left (D : DS) (m : Nat → Bytes) (ch : Ch) : Prop := ∀ k sc t, (crashD D k sc t).seen = m ∨ (crashD D k sc t).seen = doI m ch ∨ (ch.cuts = false ∧ (crashD D k sc t).seen = doI m (tornC t ch))
theorem unitD_gone_of {D : DS} (h : goneD D = true) : unitD D = { D with gone := true } := by unfold unitD; rw [if_pos h]
theorem unitD_live {D : DS} (h : ¬ goneD D = true) : (unitD D).gone = D.gone ∧ (unitD D).waits = D.waits ∧ (unitD D).seen = D.seen ∧ (unitD D).sure = D.sure ∧ (unitD D).room = D.room := by
  refine ⟨?_, unitD_waits D, unitD_seen D, unitD_sure D, unitD_room D⟩
  unfold unitD
  rw [if_neg h]
  split <;> rfl
theorem op_room (D : DS) (ch : Ch) : (opD D ch).1.room = D.room := by
  unfold opD
  split
  · exact unitD_room D
  · unfold syncD
    split
    · rw [unitD_room]; unfold waitD; split <;> simp [unitD_room]
    · show (unitD (waitD D ch)).room = _
      rw [unitD_room]; unfold waitD; split <;> simp [unitD_room]
theorem op_out {D : DS} {m : Nat → Bytes} {ch : Ch} (h : Base D m) : ((opD D ch).2 = 0 → Base (opD D ch).1 (doI m ch)) ∧ ((opD D ch).2 ≠ 0 → Left (opD D ch).1 m ch) := by
  unfold opD
  by_cases hg : goneD D = true
  · rw [if_pos hg]
    refine ⟨fun hh => by simp at hh, fun _ k sc t => .inl ?_⟩
    rw [unitD_gone_of hg]
    unfold crashD
    show crashL _ _ _ 0 D.waits D.sure = m
    rw [h.waits, crashL_nil, h.sure]
  · rw [if_neg hg]
    obtain ⟨u1, u2, u3, u4, u5⟩ := unitD_live hg
    have hwd : waitD D ch = { unitD D with waits := [ch], seen := doI m ch } := by
      unfold waitD; rw [if_neg hg, h.waits, h.seen]; rfl
    unfold syncD
    by_cases hg2 : goneD (waitD D ch) = true
    · rw [if_pos hg2]
      refine ⟨fun hh => by simp at hh, fun _ k sc t => ?_⟩
      rw [unitD_gone_of hg2, hwd]
      unfold crashD
      show crashL _ _ _ 0 [ch] (unitD D).sure = m ∨ crashL _ _ _ 0 [ch] (unitD D).sure = _ ∨ _ ∧ crashL _ _ _ 0 [ch] (unitD D).sure = _
      rw [u4, h.sure]
      unfold crashL crashL crash1
      split
      · exact .inr (.inl rfl)
      · split
        · rename_i hh; exact .inr (.inr ⟨hh.2.1, rfl⟩)
        · exact .inl rfl
    · rw [if_neg hg2]
      obtain ⟨v1, v2, v3, v4, v5⟩ := unitD_live hg2
      refine ⟨fun _ => ⟨?_, ?_, rfl, ?_⟩, fun hh => by simp at hh⟩
      · show (waitD D ch).seen = _; rw [hwd]
      · show (unitD (waitD D ch)).seen = _; rw [v3, hwd]
      · show (unitD (waitD D ch)).gone = false; rw [v1, hwd]; show (unitD D).gone = false; rw [u1]; exact h.live
/-- What is read of a disk's contents. -/
def readS (c : ShaC) (m : Nat → Bytes) : Bytes × List Bytes := ((picks c (dsOf m) 2).text, recsL c (picks c (dsOf m) 2).gen (m 2) 0)
theorem Shows.read {c : ShaC} {m : Nat → Bytes} {L : LS} (h : Shows c m L) : readS c m = (L.text, L.recs) := by
  unfold readS
  have e1 := h.gen; have e2 := h.text
  rw [show (⟨0, m, m, [], false, 0, false⟩ : DS) = dsOf m from rfl] at e1 e2
  rw [← e1, ← e2, ← h.recs]
theorem open_crash (c : ShaC) (D : DS) (k sc t : Int) : ∃ D' L, openD c (crashD D k sc t) = (D', some L, 0) ∧ (L.text, L.recs) = readS c (crashD D k sc t).seen := by
  have hc : Calm (crashD D k sc t) := ⟨rfl, rfl⟩
  obtain ⟨D', L, h1, h2, h3, h4⟩ := open_good (c := c) hc (by simp [crashD])
  have hL : L = loadL c (crashD D k sc t) := by
    unfold openD at h1
    rw [if_neg (by rw [hc.2]; simp)] at h1
    split at h1
    · cases h1; rfl
    · split at h1
      · cases h1
      · split at h1
        · cases h1
        · cases h1; rfl
  refine ⟨D', L, h1, ?_⟩
  have hp : picks c (dsOf (crashD D k sc t).seen) 2 = picks c (crashD D k sc t) 2 := picks_seen c (fun _ _ => rfl) 2 (Nat.le_refl _)
  rw [hL]
  unfold readS loadL
  rw [hp]
theorem nextF_short {c : ShaC} {gen : Int} {n k : Nat} {t : Bytes} (ht : t.length ≤ 16384) (hk : k < 20 + t.length) : nextF c ((recB c gen n t).take k) gen n = none := by
  have hl := recB_len c gen n t
  unfold nextF
  by_cases h20 : k < 20
  · rw [if_pos (.inl (by simp; omega))]
  · have e8 : numAt ((recB c gen n t).take k) 8 = (t.length : Int) := by
      rw [numAt_ext (b' := recB c gen n t) (k := k) (by rw [List.take_take, Nat.min_self]) (by omega)]
      unfold recB
      rw [numAt_app (by rw [numB_len]; omega), numAt_app (by rw [numB_len, numB_len]; omega)]
      exact numAt_numB (by omega) (by omega)
    split
    · rfl
    · rw [if_pos (.inr (by rw [e8]; simp; omega))]
theorem goodF_short {c : ShaC} {g : Int} {t : Bytes} {k : Nat} (ht : t.length < 4294967296) (hk : k < 16 + t.length) : goodF c ((snapB c g t).take k) = none := by
  have hl := snapB_len c g t
  unfold goodF
  by_cases h16 : k < 16
  · rw [if_pos (by simp; omega)]
  · have e4 : numAt ((snapB c g t).take k) 4 = (t.length : Int) := by
      rw [numAt_ext (b' := snapB c g t) (k := k) (by rw [List.take_take, Nat.min_self]) (by omega)]
      unfold snapB
      rw [numAt_app (by rw [numB_len]; omega)]
      exact numAt_numB (by omega) (by omega)
    split
    · rfl
    · rw [if_pos (.inr (.inr (by rw [e4]; simp; omega)))]
theorem pick_none {c : ShaC} {A : LS} {s : Int} {b : Bytes} (h : goodF c b = none) : pickS c A s b = A := by unfold pickS; rw [h]
theorem pick_yes {c : ShaC} {A : LS} {s g : Int} {b t : Bytes} (h : goodF c b = some (g, t)) (hg : g > A.gen) : pickS c A s b = { A with gen := g, slot := s, text := t } := by unfold pickS; rw [h]; exact if_pos hg
theorem pick_no {c : ShaC} {A : LS} {s g : Int} {b t : Bytes} (h : goodF c b = some (g, t)) (hg : ¬ g > A.gen) : pickS c A s b = A := by unfold pickS; rw [h]; exact if_neg hg
/-- The slot that does not count, with nothing good in it. -/
theorem slot_bad {c : ShaC} {m m' : Nat → Bytes} {L : LS} (hs : Shows c m L) (hsl : L.slot = 0 ∨ L.slot = 1) (hx : goodF c (m' (1 - L.slot).toNat) = none) (hm : ∀ k, k < 2 → k ≠ (1 - L.slot).toNat → m' k = m k) :
    (picks c (dsOf m') 2).gen = L.gen ∧ (picks c (dsOf m') 2).text = L.text ∧ (picks c (dsOf m') 2).slot = L.slot := by
  have e1 := hs.gen; have e2 := hs.text; have e3 := hs.slot
  rw [show (⟨0, m, m, [], false, 0, false⟩ : DS) = dsOf m from rfl] at e1 e2 e3
  have hst : ∀ (q : Nat → Bytes), picks c (dsOf q) 2 = pickS c (pickS c L0 (0 : Nat) (q 0)) (1 : Nat) (q 1) := fun _ => rfl
  rw [hst] at e1 e2 e3 ⊢
  have hA : ∀ g t, goodF c (m 0) = some (g, t) → pickS c L0 (0 : Nat) (m 0) = { L0 with gen := g, slot := (0 : Nat), text := t } := fun g t h => pick_yes h (by have := goodF_some h; show g > 0; omega)
  rcases hsl with h0 | h1
  · rw [h0] at hx hm e3
    have hm0 := hm 0 (by omega) (by decide)
    have hx1 : goodF c (m' 1) = none := hx
    rw [hm0, pick_none hx1]
    have ho : pickS c (pickS c L0 (0 : Nat) (m 0)) (1 : Nat) (m 1) = pickS c L0 (0 : Nat) (m 0) := by
      cases hg : goodF c (m 1) with
      | none => exact pick_none hg
      | some gt =>
        obtain ⟨g, t⟩ := gt
        by_cases hgt : g > (pickS c L0 (0 : Nat) (m 0)).gen
        · rw [pick_yes hg hgt] at e3; simp at e3
        · exact pick_no hg hgt
    rw [ho] at e1 e2 e3
    exact ⟨e1.symm, e2.symm, by rw [h0]; exact e3.symm⟩
  · rw [h1] at hx hm e3
    have hm1 := hm 1 (by omega) (by decide)
    have hx0 : goodF c (m' 0) = none := hx
    rw [hm1, pick_none hx0]
    cases hg : goodF c (m 1) with
    | none =>
      rw [pick_none hg] at e1 e2 e3 ⊢
      cases hg0 : goodF c (m 0) with
      | none => rw [pick_none hg0] at e1 e2 e3; exact ⟨e1.symm, e2.symm, by rw [h1]; exact e3.symm⟩
      | some gt => obtain ⟨g, t⟩ := gt; rw [hA g t hg0] at e3; simp at e3
    | some gt =>
      obtain ⟨g, t⟩ := gt
      have hgs := goodF_some hg
      rw [pick_yes hg (by show g > 0; omega)]
      by_cases hgt : g > (pickS c L0 (0 : Nat) (m 0)).gen
      · rw [pick_yes hg hgt] at e1 e2 e3
        exact ⟨e1.symm, e2.symm, by rw [h1]; rfl⟩
      · rw [pick_no hg hgt] at e1 e2 e3
        cases hg0 : goodF c (m 0) with
        | none => rw [pick_none hg0] at hgt; exact absurd (show g > L0.gen from (by show g > 0; omega)) hgt
        | some gt' => obtain ⟨g', t'⟩ := gt'; rw [hA g' t' hg0] at e3; simp at e3
/-! ### What an append, a snapshot, leave -/
/-- Wherever the power went: the one or the other is read. -/
def Either (c : ShaC) (D : DS) (a b : Bytes × List Bytes) : Prop := ∀ k sc t, readS c (crashD D k sc t).seen = a ∨ readS c (crashD D k sc t).seen = b
structure PG (c : ShaC) (D : DS) (L : LS) : Prop where
  base : Base D D.seen
  shows : Shows c D.seen L
theorem read_end {c : ShaC} {m : Nat → Bytes} {L : LS} {x : Bytes} (hs : Shows c m L) : readS c (fun k => if k = 2 then m 2 ++ x else m k) = (L.text, L.recs ++ recsL c L.gen x L.recs.length) := by
  have hp : picks c (dsOf fun k => if k = 2 then m 2 ++ x else m k) 2 = picks c (dsOf m) 2 := picks_seen c (fun k hk => by show (if k = 2 then _ else _) = _; rw [if_neg (by omega)]) 2 (Nat.le_refl _)
  have e1 := hs.gen; have e2 := hs.text
  rw [show (⟨0, m, m, [], false, 0, false⟩ : DS) = dsOf m from rfl] at e1 e2
  unfold readS
  rw [hp, ← e1, ← e2]
  simp only [if_true]
  rw [recsL_append c L.gen x (m 2) 0 (by rw [← hs.recs, hs.sum, hs.fin]), ← hs.recs, Nat.zero_add]
theorem append_pow {c : ShaC} {D : DS} {L : LS} {t : Bytes} (h : PG c D L) (hok : L.Ok) :
    (appD c D L t).1.room = D.room ∧ ((appD c D L t).2.2 = 0 → PG c (appD c D L t).1 (appD c D L t).2.1 ∧ (appD c D L t).2.1.text = L.text ∧ (appD c D L t).2.1.recs = L.recs ++ [t]) ∧
    ((appD c D L t).2.2 = 1 → Either c (appD c D L t).1 (L.text, L.recs) (L.text, L.recs ++ [t])) ∧ ((appD c D L t).2.2 ≠ 0 → (appD c D L t).2.2 ≠ 1 → (appD c D L t).1 = D ∧ (appD c D L t).2.1 = L) := by
  have hs := h.shows
  have hsz : szD D 2 = (D.seen 2).length := by unfold szD; rw [if_pos (by omega)]; rfl
  have hlen := recB_len c L.gen L.recs.length t
  have hg := hok.gen
  have hrl := hok.recs
  unfold appD
  rw [if_neg (by rw [hs.dead]; simp)]
  by_cases h1 : t.length > 16384
  · rw [if_pos h1]; exact ⟨rfl, fun hh => by simp at hh, fun hh => by simp at hh, fun _ _ => ⟨rfl, rfl⟩⟩
  rw [if_neg h1]
  by_cases h2 : (20 : Int) + t.length > freeD D
  · rw [if_pos h2]; exact ⟨rfl, fun hh => by simp at hh, fun hh => by simp at hh, fun _ _ => ⟨rfl, rfl⟩⟩
  rw [if_neg h2, ws_op (by omega) ⟨by omega, by rw [hsz, hs.fin]; omega⟩ (by rw [hsz, hs.fin]; omega)]
  have e2 : (2 : Int).toNat = 2 := rfl
  rw [e2, Int.toNat_natCast]
  have out := op_out (ch := ⟨2, L.fin, recB c L.gen L.recs.length t, false⟩) h.base
  have hroom := op_room D ⟨2, L.fin, recB c L.gen L.recs.length t, false⟩
  have hdo := doI_end D.seen 2 L.fin (recB c L.gen L.recs.length t) hs.fin
  have hfull : recsL c L.gen (recB c L.gen L.recs.length t) L.recs.length = [t] := recsL_one ⟨by omega, by omega⟩ (by omega) (by omega)
  generalize opD D ⟨2, L.fin, recB c L.gen L.recs.length t, false⟩ = R at *
  by_cases hr : R.2 ≠ 0
  · rw [if_pos hr]
    refine ⟨hroom, fun hh => by simp at hh, fun _ => ?_, fun _ hh => absurd rfl hh⟩
    intro k sc tt
    rcases out.2 hr k sc tt with q | q | ⟨_, q⟩
    · rw [q]; exact .inl hs.read
    · rw [q, hdo, read_end hs, hfull]; exact .inr rfl
    · rw [q]
      unfold tornC
      dsimp only
      rw [doI_end D.seen 2 L.fin _ hs.fin, read_end hs]
      by_cases hk : tt.toNat < 20 + t.length
      · rw [recsL_none (nextF_short (by omega) hk), List.append_nil]; exact .inl rfl
      · rw [List.take_of_length_le (by omega), hfull]; exact .inr rfl
  · rw [if_neg hr]
    have hr0 : R.2 = 0 := by simpa using hr
    have hb := out.1 hr0
    rw [hdo] at hb
    have hse := hb.seen
    refine ⟨hroom, fun _ => ⟨⟨by rw [hse]; exact hb, ?_⟩, rfl, rfl⟩, fun hh => by simp at hh, fun hh => by simp at hh⟩
    rw [hse]
    have hp : picks c (dsOf fun k => if k = 2 then D.seen 2 ++ recB c L.gen L.recs.length t else D.seen k) 2 = picks c (dsOf D.seen) 2 := picks_seen c (fun k hk => by show (if k = 2 then _ else _) = _; rw [if_neg (by omega)]) 2 (Nat.le_refl _)
    refine ⟨hs.dead, ?_, ?_, ?_, ?_, ?_, ?_⟩
    · exact hs.gen.trans (congrArg LS.gen hp.symm)
    · exact hs.slot.trans (congrArg LS.slot hp.symm)
    · exact hs.text.trans (congrArg LS.text hp.symm)
    · have := read_end (x := recB c L.gen L.recs.length t) hs
      have h3 := recsL_append c L.gen (recB c L.gen L.recs.length t) (D.seen 2) 0 (by rw [← hs.recs, hs.sum, hs.fin])
      rw [← hs.recs, Nat.zero_add, hfull] at h3
      simp only [if_true]
      exact h3.symm
    · simp only [if_true]
      rw [List.length_append, hlen, ← hs.fin]
    · simp only
      rw [lenR_snoc, hs.sum]
end Go.Proofs.YtcolhmddhaabnaaDoor
