import Derived.Test.YtcolhmddhaabnaaDoorAg0
import Derived.Test.YtcolhmddhaabnaaDoorVag
set_option linter.unusedVariables false
set_option maxRecDepth 100000
namespace Go.Proofs.YtcolhmddhaabnaaDoor
open Go.H
theorem eqi (d : Nat) (a : Int) (h : Hp) : rd P (Op.equalIn (d + 1) 3 (.int .i64 a) (.int .i64 a)) h = some true := by
  have hu : P.underlying 3 = some (.int .i64) := by kernel_rfl
  unfold Op.equalIn
  refine rd_b (rd_und.trans hu) ?_
  simp [rd, Pure.pure]
theorem part3 {cs : Array Value} {k : Nat} {v : Value} {h : Hp} (hk : cs[k]? = some v) : rd P (part 3 cs k) h = some v := by
  obtain ⟨g1, d, g2⟩ := leaf_of leaf3
  unfold part
  refine rd_b (rd_agg g2) ?_
  rw [g1]
  simp [rd, hk, Pure.pure]
theorem eq53 (a b c : Int) (h : Hp) : rd P (Op.equalIn 10000 53 (.agg #[.int .i64 a, .int .i64 b, .int .i64 c]) (.agg #[.int .i64 a, .int .i64 b, .int .i64 c])) h = some true := by
  have hu : P.underlying 53 = some (.array 3 3) := by kernel_rfl
  unfold Op.equalIn
  refine rd_b (rd_und.trans hu) ?_
  have hs : rd P (sizeOf 3) h = some 1 := by kernel_rfl
  refine rd_b hs ?_
  simp only [Std.Legacy.Range.forIn_eq_forIn_range']
  have hr : List.range' 0 ([:3] : Std.Legacy.Range).size = [0, 1, 2] := by decide
  rw [hr]
  simp only [List.forIn_cons, List.forIn_nil]
  have body : ∀ (v : Int) (f : ForInStep (Option Bool × Unit) → Sem (Option Bool × Unit)) (k : Nat) (r : Option (Option Bool × Unit)), (#[Value.int .i64 a, .int .i64 b, .int .i64 c] : Array Value)[k * 1]? = some (.int .i64 v) → rd P (f (.yield (none, ()))) h = r →
      rd P ((do
        let x ← part 3 #[Value.int .i64 a, .int .i64 b, .int .i64 c] (k * 1)
        let y ← part 3 #[Value.int .i64 a, .int .i64 b, .int .i64 c] (k * 1)
        let z ← Op.equalIn 9999 3 x y
        if (!z) = true then pure (ForInStep.done (some false, ())) else pure (ForInStep.yield (none, ()))) >>= f) h = r := by
    intro v f k r hk hf
    refine rd_b (a := ForInStep.yield (none, ())) ?_ hf
    refine rd_b (part3 hk) ?_
    refine rd_b (part3 hk) ?_
    refine rd_b (eqi 9998 v h) ?_
    rfl
  refine rd_b (a := (none, ())) ?_ rfl
  refine body a _ 0 _ rfl ?_
  dsimp only
  refine body b _ 1 _ rfl ?_
  dsimp only
  refine body c _ 2 _ rfl ?_
  rfl
theorem eql53 (a b c : Int) (h : Hp) : rd P (sBin .eql 53 false (.agg #[.int .i64 a, .int .i64 b, .int .i64 c]) (.agg #[.int .i64 a, .int .i64 b, .int .i64 c])) h = some (.bool true) := by
  unfold sBin
  refine rd_b (a := ()) (by kernel_rfl) ?_
  unfold binOp
  dsimp only
  unfold Op.equal
  refine rd_b (eq53 a b c h) ?_
  rfl
theorem agg53 : aggOk P 53 3 = true := by kernel_rfl
theorem build53 (a b c : Int) (h : Hp) : rd P (Instr.build 53 #[(0, .int .i64 a), (1, .int .i64 b), (2, .int .i64 c)]) h = some (.agg [.int .i64 a, .int .i64 b, .int .i64 c].toArray) := by kernel_rfl
theorem nm_neq3 (a b : Int) (h h' : Hp) : rd P (sBin .neq 3 false (.int .i64 a) (.int .i64 b)) h = rd P (sBin .neq 3 false (.int .i64 a) (.int .i64 b)) h' := by kernel_rfl
theorem nm_neq9 (a b : ByteArray) (h h' : Hp) : rd P (sBin .neq 9 false (.string a) (.string b)) h = rd P (sBin .neq 9 false (.string a) (.string b)) h' := by kernel_rfl
theorem str_same {o o' : Own} {h h' : Hp} {t t' : Tag} {a : Option Addr} {n c : Nat} {l : Bytes} (hx : Rc o h t 1 a n c (l.map bc)) (hx' : Rc o' h' t' 1 a n c (l.map bc)) : rd P (convert 24 9 (.slice a n c)) h' = rd P (convert 24 9 (.slice a n c)) h := by
  rw [rd_str bytes24 hx, rd_str bytes24 hx']
/-- What the areas hold, while they are filled. -/
structure Filled (D : DS) (i : Nat) : Prop where
  calm : Calm D
  room : D.room = 2000
  waits : D.waits.length ≤ i
  upto : i ≤ 3
  len : ∀ k, k < 3 → (D.seen k).length ≤ 300
  rest : ∀ k, k < 3 → i ≤ k → (D.seen k) = []
theorem filled_write {D : DS} {i : Nat} {b : Bytes} (h : Filled D i) (hi : i < 3) (hb : b.length ≤ 300) : (writeD D i 0 b).2 = 0 ∧ Filled (writeD D i 0 b).1 (i + 1) := by
  have hr := h.rest i hi (Nat.le_refl _)
  have hsz : szD D i = 0 := by unfold szD; rw [if_pos (by omega), Int.toNat_natCast, hr]; rfl
  have hfr : freeD D ≥ 1100 := by
    have h0 := h.len 0 (by omega); have h1 := h.len 1 (by omega); have h2 := h.len 2 (by omega); have h3 := h.room
    unfold freeD; omega
  unfold writeD
  rw [if_pos ⟨by omega, by omega, by omega⟩, if_neg (by rw [hsz]; omega), h.calm.wait, h.calm.go]
  have hd : doI D.seen ⟨(i : Int).toNat, (0 : Int).toNat, b, false⟩ = fun k => if k = i then b else D.seen k := by
    rw [Int.toNat_natCast]
    have e0 : (0 : Int).toNat = 0 := rfl
    rw [e0, doI_end _ _ _ _ (by rw [hr]; rfl), hr]
    rfl
  refine ⟨rfl, h.calm, h.room, ?_, by omega, ?_, ?_⟩
  · have := h.waits; simp; omega
  · intro k hk
    show (doI D.seen ⟨(i : Int).toNat, (0 : Int).toNat, b, false⟩ k).length ≤ 300
    rw [hd]
    dsimp only
    split
    · exact hb
    · exact h.len k hk
  · intro k hk hik
    show doI D.seen ⟨(i : Int).toNat, (0 : Int).toNat, b, false⟩ k = []
    rw [hd]
    dsimp only
    rw [if_neg (by omega)]
    exact h.rest k hk (by omega)
def AgI (o : Own) (h : Hp) (a : Option Addr) (n c : Nat) (l : Option Addr) (ln lc : Nat) (ars : List Bytes) (bs : List Bct) (ns : List Nat) (y1 : Option Addr) (y1n y1c : Nat) (y5 y29 : Option Addr) (y29n y29c : Nat) (y30 y31 : Int) (hh : Hp) : Prop :=
  ∃ (i d : Nat) (o' : Own) (D : DS), ns = [ars.length - i] ∧ i ≤ ars.length ∧ ars.length ≤ 3 ∧ y1 = l ∧ y1n = ln ∧ y1c = lc ∧ y5 = some ⟨d, 0, none⟩ ∧ y29 = a ∧ y29n = n ∧ y29c = c ∧ y30 = (ars.length : Int) ∧ y31 = i ∧ DiskAt o' hh 2 d D ∧ Filled D i ∧ (bs.length ≤ 40 ∧ ∀ y ∈ bs, y.bytes.length ≤ 200) ∧ Step Mut o h o' hh
def AgJ (o : Own) (h : Hp) (c : ShaC) (l : Option Addr) (ln lc : Nat) (bs : List Bct) (ns : List Nat) (y5 y9 y52 : Option Addr) (y52n y52c : Nat) (y53 y54 : Int) (hh : Hp) : Prop :=
  ∃ (i d x : Nat) (o' : Own) (D : DS) (L : LS), ns = [bs.length - i] ∧ i ≤ bs.length ∧ y5 = some ⟨d, 0, none⟩ ∧ y9 = some ⟨x, 0, none⟩ ∧ y52 = l ∧ y52n = ln ∧ y52c = lc ∧ y53 = (bs.length : Int) ∧ y54 = i ∧ DiskAt o' hh 2 d D ∧ LogAt o' hh 3 d x L ∧ Good c D L ∧ (bs.length ≤ 40 ∧ ∀ y ∈ bs, y.bytes.length ≤ 200) ∧ Step Mut o h o' hh
theorem again_ok {o : Own} {h : Hp} {e : Errs} {lg : Value} {c : ShaC} {a l : Option Addr} {n cp ln lc : Nat} {ars : List Bytes} {bs : List Bct} {K : Value → Hp → Prop} (hw : WEnv o h e lg c) (ha : PartsAt o h (0, 0) a n cp ars) (hl : BctsAt o h l ln lc bs)
    (H : ∀ o' h', Step Mut o h o' h' → K (.bool true) h') : Spec P 4 #[.slice a n cp, .slice l ln lc] h K := by
  have m00 : ¬ Mut (0, 0) := fun q => q rfl
  have mT : ∀ τ τd, 2 ≤ τ → 2 ≤ τd → ∀ t, Two τ τd t → Mut t := by intro τ τd h1 h2 t ht e; subst e; unfold Two at ht; simp at ht; omega
  have mO : ∀ τ, 2 ≤ τ → ∀ t, Of τ t → Mut t := by intro τ h1 t ht e; subst e; unfold Of at ht; simp at ht; omega
  obtain rfl := ha.count
  obtain rfl := hl.count
  refine S4 (AgI o h a ars.length cp l bs.length lc ars bs) (AgJ o h c l bs.length lc bs) ?_ ?_ ?_
  · rintro k y1 y1n y1c y5 y29 y29n y29c y30 y31 hh ⟨i, d, o', D, hns, hi, has, rfl, rfl, rfl, rfl, rfl, rfl, rfl, rfl, rfl, hd, hf, h200, st0⟩
    obtain rfl : k = ars.length - i := by simpa using hns
    have hw' := hw.step st0 m00
    unfold V4_506
    refine bIf_dec (fun hlt => ?_) (fun hge => ?_)
    · obtain ⟨p, hp⟩ : ∃ p, ars[i]? = some p := ⟨ars[i]'(by omega), by simp⟩
      obtain ⟨a', m', c', g1, g2⟩ := (ha.step st0 m00 m00).row hp
      have hm := len_rc g1
      refine g2 _ ?_
      refine bIf_dec (fun hbig => ?_) (fun hbig => ?_)
      · exact H _ _ st0
      have hfw := filled_write (b := p) hf (by omega) (by omega)
      refine write_ok hd hw'.errs (by omega) (by have := hf.waits; omega) g1 (by omega) ?_
      intro o2 h2 hd2 s2
      rw [hfw.1]
      refine nl_nil (bIf_f rfl ?_)
      refine ⟨ars.length - (i + 1), by omega, i + 1, d, o2, _, rfl, by omega, has, rfl, rfl, rfl, rfl, rfl, rfl, rfl, rfl, ?_, hd2, hfw.2, h200, st0.trans (s2.mono (mO 2 (by omega)))⟩
      rw [wrap_i64] <;> omega
    · obtain ⟨D', L, p1, p2, _, _⟩ := open_good (c := c) hf.calm (by have := hf.waits; have := hf.upto; omega)
      refine open_ok (τ := 3) hw' hd (by omega) (by omega) (by omega) (by have := hf.waits; omega) (fun r q1 => by rw [p1] at q1; cases q1) ?_
      intro L' hL _ o2 h2 x hd2 hx2 _ s2
      rw [p1] at hL hd2
      cases hL
      refine asTu_i (xs := [_, _]) (unc_i (asPt_i (unc_i (nilL_i ?_))))
      refine nl_nil (bIf_f rfl ?_)
      exact ⟨bs.length, 0, d, x, o2, _, _, rfl, by omega, rfl, rfl, rfl, rfl, rfl, rfl, rfl, hd2, hx2, p2, h200, st0.trans (s2.mono (mT 3 2 (by omega) (by omega)))⟩
  · rintro k y5 y9 y52 y52n y52c y53 y54 hh ⟨i, d, x, o', D, L, hns, hi, rfl, rfl, rfl, rfl, rfl, rfl, rfl, hd, hx, hg, h200, st0⟩
    obtain rfl : k = bs.length - i := by simpa using hns
    have hw' := hw.step st0 m00
    have hLok : L.Ok := by obtain ⟨_, _, _, _, q⟩ := hx; exact q.ok
    have hwt := hg.waits
    have h40 := h200.1
    unfold V4_4090
    refine bIf_dec (fun hlt => ?_) (fun hge => ?_)
    · obtain ⟨b, hb⟩ : ∃ b, bs[i]? = some b := ⟨bs[i]'(by omega), by simp⟩
      have hb200 := h200.2 b (List.mem_of_getElem? hb)
      obtain ⟨bb, off, cs, E, fr, ba, bn, bcap, g0, g1, g2, g3, g4, g5, g7, g8⟩ := (hl.step st0 m00).row hb
      refine g0 _ ?_
      refine ld_i g1 g2 ?_
      refine ld_i g1 g3 ?_
      refine ld_i g1 g4 ?_
      refine ld_i g1 g5 ?_
      refine ld_l g1 g7 ?_
      refine nw_to ?_
      intro r h2 hr hh2
      subst hh2
      iterate 5 refine st_v (Hp.set_same _ _ _) (Loose.zero _) rfl (by simp) ?_
      simp only [Hp.set_set]
      have s2 : Step (fun _ => False) o' hh (o'.set r (1, 0)) (hh.set r (.cells #[.int .i64 b.kind, .int .i64 b.n, .int .i64 b.torn, .int .u64 b.scat, .slice ba bn bcap] 51)) := Step.new _ _ hr
      generalize hg3 : Hp.set hh r _ = h3
      have hg4 : h3 = hh.set r (.cells #[.int .i64 b.kind, .int .i64 b.n, .int .i64 b.torn, .int .u64 b.scat, .slice ba bn bcap] 51) := hg3.symm.trans (congrArg (fun C => hh.set r (.cells C 51)) (by kernel_rfl))
      have hr3 : h3 r = some (.cells #[.int .i64 b.kind, .int .i64 b.n, .int .i64 b.torn, .int .u64 b.scat, .slice ba bn bcap] 51) := by rw [hg4]; exact Hp.set_same _ _ _
      rw [← hg4] at s2
      have next : ∀ (o4 : Own) (h4 : Hp) (D' : DS) (L' : LS), DiskAt o4 h4 2 d D' → LogAt o4 h4 3 d x L' → Good c D' L' → Step (Two 3 2) (o'.set r (1, 0)) h3 o4 h4 →
          ∃ m, m < bs.length - i ∧ AgJ o h c y52 bs.length y52c bs [m] (some ⟨d, 0, none⟩) (some ⟨x, 0, none⟩) y52 bs.length y52c (bs.length : Int) (IntKind.i64.wrap ((i : Int) + 1)) h4 := by
        intro o4 h4 D' L' q1 q2 q3 q4
        refine ⟨bs.length - (i + 1), by omega, i + 1, d, x, o4, D', L', rfl, by omega, rfl, rfl, rfl, rfl, rfl, rfl, ?_, q1, q2, q3, h200, st0.trans (s2.no.trans (q4.mono (mT 3 2 (by omega) (by omega))))⟩
        rw [wrap_i64] <;> omega
      refine ld_i hr3 rfl ?_
      refine bIf_ite (fun hk => ?_) (fun hk => ?_)
      · refine ld_l hr3 rfl ?_
        refine compact_ok (hw'.step s2 (by simp)) (hd.step s2 (by simp) (by simp)) (hx.step s2 (by simp) (by simp)) (by omega) (by omega) (by omega) (by omega) (g8.step s2 (by simp)) (by omega) ?_
        intro o4 h4 hd4 hx4 s4
        exact next o4 h4 _ _ hd4 hx4 (compact_good hg hLok (by omega)).1 s4
      · refine ld_l hr3 rfl ?_
        refine append_ok (hw'.step s2 (by simp)) (hd.step s2 (by simp) (by simp)) (hx.step s2 (by simp) (by simp)) (by omega) (by omega) (by omega) (by omega) (g8.step s2 (by simp)) (by simp) (by simp) (by omega) ?_
        intro o4 h4 hd4 hx4 s4
        exact next o4 h4 _ _ hd4 hx4 (append_good hg hLok).1 s4
    · refine size_ok hd ?_
      refine asIn_i ?_
      refine size_ok hd ?_
      refine asIn_i ?_
      refine size_ok hd ?_
      refine asIn_i ?_
      rw [oRd_eq (build53 _ _ _ _)]
      refine asAg_i ?_
      iterate 3
        refine unc_i ?_
        refine asIn_i ?_
      refine nilL_i ?_
      refine nw_to ?_
      intro r h2 hr hh2
      subst hh2
      iterate 3 refine st_v (Hp.set_same _ _ _) (Loose.zero _) rfl (by simp) ?_
      simp only [Hp.set_set]
      have s2 : Step (fun _ => False) o' hh (o'.set r (1, 0)) (hh.set r (.cells #[.int .i64 (szD D 0), .int .i64 (szD D 1), .int .i64 (szD D 2)] 53)) := Step.new _ _ hr
      generalize hg3 : Hp.set hh r _ = h3
      have hg4 : h3 = hh.set r (.cells #[.int .i64 (szD D 0), .int .i64 (szD D 1), .int .i64 (szD D 2)] 53) := hg3.symm.trans (congrArg (fun C => hh.set r (.cells C 53)) (by kernel_rfl))
      have hr3 : h3 r = some (.cells #[.int .i64 (szD D 0), .int .i64 (szD D 1), .int .i64 (szD D 2)] 53) := by rw [hg4]; exact Hp.set_same _ _ _
      rw [← hg4] at s2
      have hor : (o'.set r (1, 0)) r = (1, 0) := Own.set_same _ _ _
      have p6 := open_again hg
      have s02 := st0.trans s2.no
      refine open_ok (τ := 4) (hw'.step s2 (by simp)) (hd.step s2 (by simp) (by simp)) (by omega) (by omega) (by omega) (by omega) (fun r q1 => by rw [p6] at q1; cases q1) ?_
      intro L' hL' _ o4 h4 y hd4 hy4 _ s4
      rw [p6] at hL' hd4
      cases hL'
      have s04 := s02.trans (s4.mono (mT 4 2 (by omega) (by omega)))
      have hx4 := (hx.step s2 (by simp) (by simp)).step s4 (by unfold Two; simp) (by unfold Two; simp)
      obtain ⟨q1, q2⟩ := s4.at hr3 (by rw [hor]; unfold Two; simp)
      refine asTu_i (xs := [_, _]) (unc_i (asPt_i (unc_i (nilL_i ?_))))
      refine nl_nil (bIf_f rfl ?_)
      refine gen_ok hy4 ?_
      refine asIn_i ?_
      refine gen_ok hx4 ?_
      refine asIn_i ?_
      refine bIf_f (by simp) ?_
      refine snapshot_ok (t := (0, 0)) hy4 ?_
      intro o5 h5 a5 n5 c5 k5 s5
      refine asSl_i ?_
      refine ⟨nm_neq3 _ _ _ _, ?_⟩
      refine str_ok bytes24 k5 ?_
      refine snapshot_ok (t := (0, 0)) (hx4.step s5 (by simp) (by simp)) ?_
      intro o6 h6 a6 n6 c6 k6 s6
      refine asSl_i ?_
      refine ⟨⟨str_same k5 (k5.step s6 (by simp)), nm_neq3 _ _ _ _⟩, ?_⟩
      refine str_ok bytes24 k6 ?_
      refine bIf_f (by rw [strEq_str]; simp) ?_
      have s56 := s5.trans s6
      refine records_ok (t := (5, 0)) (hy4.step s56 (by simp) (by simp)) (by simp) (by simp) ?_
      intro o7 h7 a7 n7 c7 k7 s7
      refine asSl_i ?_
      have z7 : ¬ Only (5, 0) (0, 0) := by unfold Only; simp
      refine ⟨by (repeat' apply And.intro) <;> first | exact nm_neq9 _ _ _ _ | exact nm_neq3 _ _ _ _ | exact str_same k6 (k6.step s7 z7) | exact str_same k5 ((k5.step s6 (by simp)).step s7 z7), ?_⟩
      refine records_ok (t := (5, 1)) (((hx4.step s56 (by simp) (by simp))).step s7 z7 (by unfold Only; simp)) (by simp) (by simp) ?_
      intro o8 h8 a8 n8 c8 k8 s8
      refine asSl_i ?_
      have z8 : ¬ Only (5, 1) (0, 0) := by unfold Only; simp
      refine ⟨by (repeat' apply And.intro) <;> first | exact nm_neq9 _ _ _ _ | exact nm_neq3 _ _ _ _ | exact str_same k6 ((k6.step s7 z7).step s8 z8) | exact str_same k5 (((k5.step s6 (by simp)).step s7 z7).step s8 z8) | rfl, ?_⟩
      have k78 := k7.step s8 z8 (by unfold Only; simp)
      refine sameLists_ok k78 k8 (by have := hLok.recs; omega) ?_
      refine asBo_i ?_
      refine ⟨by (repeat' apply And.intro) <;> first | exact nm_neq9 _ _ _ _ | exact nm_neq3 _ _ _ _ | exact str_same k6 ((k6.step s7 z7).step s8 z8) | exact str_same k5 (((k5.step s6 (by simp)).step s7 z7).step s8 z8) | rfl, ?_⟩
      have s08 := ((s04.trans s56.no).trans (s7.mono (S' := Mut) (by rintro _ rfl; unfold Mut; simp))).trans (s8.mono (S' := Mut) (by rintro _ rfl; unfold Mut; simp))
      have s48 : Step (fun t => t = (5, 0) ∨ t = (5, 1)) o4 h4 o8 h8 := (s56.no.trans (s7.mono (by rintro _ rfl; exact .inl rfl))).trans (s8.mono (by rintro _ rfl; exact .inr rfl))
      obtain ⟨q3, q4⟩ := s48.at q1 (by rw [q2, hor]; simp)
      have hd8 := hd4.step s48 (by simp) (by simp)
      unfold V4_s8190
      refine bIf_f (by simp) ?_
      unfold V4_s4095
      refine ld_i q3 rfl ?_
      refine ld_i q3 rfl ?_
      refine ld_i q3 rfl ?_
      refine size_ok hd8 ?_
      refine asIn_i ?_
      refine ⟨rfl, ?_⟩
      refine size_ok hd8 ?_
      refine asIn_i ?_
      refine ⟨rfl, ?_⟩
      refine size_ok hd8 ?_
      refine asIn_i ?_
      refine ⟨rfl, ?_⟩
      rw [oRd_eq (build53 _ _ _ _)]
      refine asAg_i ?_
      iterate 3
        refine unc_i ?_
        refine asIn_i ?_
      refine nilL_i ?_
      rw [oRd_eq (eql53 _ _ _ _)]
      refine asBo_i ?_
      exact H _ _ s08
  · unfold V4
    refine alive18_ok hw ?_
    intro o1 h1 s1
    refine asBo_i ?_
    refine bIf_f rfl ?_
    refine long18_ok (hl.step s1 (by simp)) ?_
    intro o2 h2 b hb s2
    have s02 : Step (fun _ => False) o h o2 h2 := s1.trans s2
    refine asBo_i ?_
    cases b with
    | true =>
      refine bIf_t rfl ?_
      unfold V4_s14
      refine bIf_t rfl ?_
      exact H _ _ s02.no
    | false =>
      refine bIf_f rfl ?_
      unfold V4_s14
      refine bIf_dec (fun hbig => ?_) (fun hbig => ?_)
      · exact H _ _ s02.no
      unfold V4_s7
      refine new_ok (τ := 2) (hw.step s02 (by simp)).errs (fun hb => by omega) (fun _ o3 h3 d hd hd3 s3 => ?_)
      refine asTu_i (unc_i (asPt_i (unc_i (nilL_i ?_))))
      refine nl_nil (bIf_f rfl ?_)
      exact ⟨ars.length, 0, d, o3, newD 2000, rfl, by omega, by omega, rfl, rfl, rfl, rfl, rfl, rfl, rfl, rfl, rfl, hd3, ⟨new_calm _, rfl, by simp [newD], by omega, fun k _ => by simp [newD], fun k _ _ => rfl⟩, hb rfl, (s02.trans s3).no⟩
end Go.Proofs.YtcolhmddhaabnaaDoor
