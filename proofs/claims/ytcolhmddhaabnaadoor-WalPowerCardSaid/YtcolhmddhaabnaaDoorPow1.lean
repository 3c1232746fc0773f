import Derived.Test.YtcolhmddhaabnaaDoorPow0
set_option linter.unusedVariables false
set_option maxRecDepth 100000
namespace Go.Proofs.YtcolhmddhaabnaaDoor
open Go.H
theorem nextF_gen {c : ShaC} {b t : Bytes} {gen n : Int} (h : nextF c b gen n = some t) : numAt b 0 = gen := by
  unfold nextF at h
  split at h
  · cases h
  · rename_i h1
    refine Classical.byContradiction fun q => h1 (.inr (.inl q))
theorem nextF_other {c : ShaC} {b t : Bytes} {gen gen' n n' : Int} (h : nextF c b gen n = some t) (hne : gen ≠ gen') : nextF c b gen' n' = none := by
  have := nextF_gen h
  unfold nextF
  rw [if_pos (.inr (.inl (by rw [this]; exact hne)))]
theorem recs_old {c : ShaC} {m : Nat → Bytes} {L : LS} {g : Int} (hs : Shows c m L) (hg : L.gen ≠ g) : recsL c g (m 2) 0 = [] := by
  cases h : nextF c (m 2) L.gen ((0 : Nat) : Int) with
  | none =>
    have hr := hs.recs
    rw [recsL_none h] at hr
    have hf := hs.sum
    rw [hr, hs.fin] at hf
    have : m 2 = [] := List.length_eq_zero_iff.1 (by simpa [lenR] using hf.symm)
    rw [this, recsL_nil]
  | some t => exact recsL_none (nextF_other h hg)
theorem read_bad {c : ShaC} {m m' : Nat → Bytes} {L : LS} (hs : Shows c m L) (hsl : L.slot = 0 ∨ L.slot = 1) (hx : goodF c (m' (1 - L.slot).toNat) = none) (hm : ∀ k, k < 2 → k ≠ (1 - L.slot).toNat → m' k = m k) (h2 : m' 2 = m 2) : readS c m' = (L.text, L.recs) := by
  obtain ⟨e1, e2, _⟩ := slot_bad hs hsl hx hm
  unfold readS
  rw [e1, e2, h2, ← hs.recs]
theorem read_new {c : ShaC} {m m' : Nat → Bytes} {L : LS} {t : Bytes} (hs : Shows c m L) (hsl : L.slot = 0 ∨ L.slot = 1) (hg0 : 0 ≤ L.gen) (hg1 : L.gen + 1 ≤ 2147483647) (ht : t.length < 4294967296)
    (h1 : m' (1 - L.slot).toNat = snapB c (L.gen + 1) t) (hm : ∀ k, k < 2 → k ≠ (1 - L.slot).toNat → m' k = m k) (h2 : m' 2 = m 2 ∨ m' 2 = []) : readS c m' = (t, []) := by
  obtain ⟨e1, e2, e3⟩ := picks_new (c := c) (m' := m') hs rfl hg0 hg1 (s := 1 - L.slot) (by omega) ht h1 hm
  unfold readS
  rw [e1, e3]
  rcases h2 with h2 | h2
  · rw [h2, recs_old hs (by omega)]
  · rw [h2, recsL_nil]
theorem compact_pow {c : ShaC} {D : DS} {L : LS} {t : Bytes} (h : PG c D L) (hok : L.Ok) (ht : t.length ≤ 1048576) :
    (compD c D L t).1.room = D.room ∧ ((compD c D L t).2.2 = 0 → PG c (compD c D L t).1 (compD c D L t).2.1 ∧ (compD c D L t).2.1.text = t ∧ (compD c D L t).2.1.recs = []) ∧
    ((compD c D L t).2.2 = 1 → Either c (compD c D L t).1 (L.text, L.recs) (t, [])) ∧ ((compD c D L t).2.2 ≠ 0 → (compD c D L t).2.2 ≠ 1 → (compD c D L t).1 = D ∧ (compD c D L t).2.1 = L) := by
  have hs := h.shows
  have hg := hok.gen
  have hsl := hok.slot
  unfold compD
  rw [if_neg (by rw [hs.dead]; simp)]
  by_cases h1 : L.gen ≥ 2147483647 ∨ ((snapB c (L.gen + 1) t).length : Int) - szD D (1 - L.slot) > freeD D
  · rw [if_pos h1]; exact ⟨rfl, fun hh => by simp at hh, fun hh => by simp at hh, fun _ _ => ⟨rfl, rfl⟩⟩
  rw [if_neg h1]
  have hs3 : 0 ≤ 1 - L.slot ∧ 1 - L.slot < 3 := by omega
  have hlen := snapB_len c (L.gen + 1) t
  have gn : goodF c [] = none := by unfold goodF; rw [if_pos (by simp)]
  unfold swD
  rw [cs_op hs3]
  have out1 := op_out (ch := ⟨(1 - L.slot).toNat, 0, [], true⟩) h.base
  have room1 := op_room D ⟨(1 - L.slot).toNat, 0, [], true⟩
  have hd1 := doI_cut D.seen (1 - L.slot).toNat
  generalize opD D ⟨(1 - L.slot).toNat, 0, [], true⟩ = R1 at *
  have rm1 : readS c (doI D.seen ⟨(1 - L.slot).toNat, 0, [], true⟩) = (L.text, L.recs) := by
    rw [hd1]
    exact read_bad hs hsl (by simp only [if_true]; exact gn) (fun k _ hk => by (try simp only); rw [if_neg hk]) (by (try simp only); rw [if_neg (by omega)])
  by_cases hr1 : R1.2 ≠ 0
  · rw [if_pos hr1, if_pos hr1]
    refine ⟨room1, fun hh => by simp at hh, fun _ => ?_, fun _ hh => absurd rfl hh⟩
    intro k sc tt
    rcases out1.2 hr1 k sc tt with q | q | ⟨q, _⟩
    · rw [q]; exact .inl hs.read
    · rw [q]; exact .inl rm1
    · cases q
  rw [if_neg hr1]
  have hb1 := out1.1 (by simpa using hr1)
  have hz : szD R1.1 (1 - L.slot) = 0 := by
    unfold szD; rw [if_pos hs3, hb1.seen, hd1]; simp
  have hfr : freeD R1.1 = freeD D + szD D (1 - L.slot) := by
    unfold freeD szD
    rw [if_pos hs3, hb1.seen, hd1, room1]
    rcases hsl with q | q
    · rw [q]; simp; omega
    · rw [q]; simp; omega
  rw [ws_op hs3 ⟨by omega, by rw [hz]; omega⟩ (by rw [hz, hfr]; omega)]
  have out2 := op_out (ch := ⟨(1 - L.slot).toNat, (0 : Int).toNat, snapB c (L.gen + 1) t, false⟩) hb1
  have room2 := op_room R1.1 ⟨(1 - L.slot).toNat, (0 : Int).toNat, snapB c (L.gen + 1) t, false⟩
  have hdw : ∀ x : Bytes, doI (doI D.seen ⟨(1 - L.slot).toNat, 0, [], true⟩) ⟨(1 - L.slot).toNat, (0 : Int).toNat, x, false⟩ = fun k => if k = (1 - L.slot).toNat then x else D.seen k := by
    intro x
    rw [hd1, doI_end _ _ _ _ (by simp)]
    funext k
    by_cases hk : k = (1 - L.slot).toNat
    · rw [if_pos hk, if_pos hk]; simp
    · rw [if_neg hk, if_neg hk]; (try simp only); rw [if_neg hk]
  generalize opD R1.1 ⟨(1 - L.slot).toNat, (0 : Int).toNat, snapB c (L.gen + 1) t, false⟩ = R2 at *
  have rm2 : readS c (fun k => if k = (1 - L.slot).toNat then snapB c (L.gen + 1) t else D.seen k) = (t, []) :=
    read_new hs hsl hg.1 (by omega) (by omega) (by simp only [if_true]) (fun k _ hk => by (try simp only); rw [if_neg hk]) (.inl (by (try simp only); rw [if_neg (by omega)]))
  by_cases hr2 : R2.2 ≠ 0
  · rw [if_pos hr2, if_pos hr2]
    refine ⟨room2.trans room1, fun hh => by simp at hh, fun _ => ?_, fun _ hh => absurd rfl hh⟩
    intro k sc tt
    rcases out2.2 hr2 k sc tt with q | q | ⟨_, q⟩
    · rw [q]; exact .inl rm1
    · rw [q, hdw, rm2]; exact .inr rfl
    · rw [q]
      unfold tornC
      dsimp only
      rw [hdw]
      by_cases hk : tt.toNat < 16 + t.length
      · refine .inl (read_bad hs hsl ?_ (fun k _ hk => by (try simp only); rw [if_neg hk]) (by (try simp only); rw [if_neg (by omega)]))
        simp only [if_true]
        exact goodF_short (by omega) hk
      · rw [List.take_of_length_le (by omega), rm2]; exact .inr rfl
  rw [if_neg hr2]
  have hb2 := out2.1 (by simpa using hr2)
  rw [hdw] at hb2
  rw [cs_op (by omega)]
  have out3 := op_out (ch := ⟨(2 : Int).toNat, 0, [], true⟩) hb2
  have room3 := op_room R2.1 ⟨(2 : Int).toNat, 0, [], true⟩
  have hd3 := doI_cut (fun k => if k = (1 - L.slot).toNat then snapB c (L.gen + 1) t else D.seen k) (2 : Int).toNat
  generalize opD R2.1 ⟨(2 : Int).toNat, 0, [], true⟩ = R3 at *
  have rm3 : readS c (fun k => if k = (2 : Int).toNat then [] else if k = (1 - L.slot).toNat then snapB c (L.gen + 1) t else D.seen k) = (t, []) := by
    refine read_new hs hsl hg.1 (by omega) (by omega) ?_ ?_ (.inr (by (try simp only); rw [if_pos (by rfl)]))
    · try simp only
      rw [if_neg (by show ¬ (1 - L.slot).toNat = 2; omega), if_true]
    · intro k hk2 hk
      try simp only
      rw [if_neg (by show ¬ k = 2; omega), if_neg hk]
  by_cases hr3 : R3.2 ≠ 0
  · rw [if_pos hr3]
    refine ⟨(room3.trans room2).trans room1, fun hh => by simp at hh, fun _ => ?_, fun _ hh => absurd rfl hh⟩
    intro k sc tt
    rcases out3.2 hr3 k sc tt with q | q | ⟨q, _⟩
    · rw [q, rm2]; exact .inr rfl
    · rw [q, hd3, rm3]; exact .inr rfl
    · cases q
  rw [if_neg hr3]
  have hb3 := out3.1 (by simpa using hr3)
  rw [hd3] at hb3
  have hse := hb3.seen
  refine ⟨(room3.trans room2).trans room1, fun _ => ⟨⟨by rw [hse]; exact hb3, ?_⟩, rfl, rfl⟩, fun hh => by simp at hh, fun hh => by simp at hh⟩
  rw [hse]
  obtain ⟨p1, p2, p3⟩ := picks_new (c := c) (g := L.gen + 1) (s := 1 - L.slot) (t := t) (m' := fun k => if k = (2 : Int).toNat then [] else if k = (1 - L.slot).toNat then snapB c (L.gen + 1) t else D.seen k) hs rfl hg.1 (by omega) (by omega) (by omega)
    (by (try simp only); rw [if_neg (by show ¬ (1 - L.slot).toNat = 2; omega), if_true]) (fun k hk hk2 => by (try simp only); rw [if_neg (by show ¬ k = 2; omega), if_neg hk2])
  refine ⟨hs.dead, p1.symm, p2.symm, p3.symm, ?_, ?_, rfl⟩
  · try simp only
    rw [if_pos (by rfl)]; exact (recsL_nil _ _ _).symm
  · try simp only
    rw [if_pos (by rfl)]; rfl
end Go.Proofs.YtcolhmddhaabnaaDoor
