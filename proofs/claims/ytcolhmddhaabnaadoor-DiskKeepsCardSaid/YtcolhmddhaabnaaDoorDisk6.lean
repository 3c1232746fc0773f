import Derived.Test.YtcolhmddhaabnaaDoorDisk5
set_option linter.unusedVariables false
set_option maxRecDepth 100000
namespace Go.Proofs.YtcolhmddhaabnaaDoor
open Go.H

def Low (τ k : Nat) : Tag → Prop := fun t => t.1 = τ ∧ t.2 < k
/-- A change done to what is sure. -/
theorem sure_do {o : Own} {h : Hp} {τ d : Nat} {D : DS} {c : Ch} {ca : Option Addr} {cn cc : Nat} {K : Value → Hp → Prop} (hd : DiskAt o h τ d D) (hτ : 2 ≤ τ)
    (ha : c.area < 3) (hc : Rc o h (0, 0) 1 ca cn cc (c.bytes.map bc)) (hlen : c.pos + c.bytes.length ≤ 1048576)
    (H : ∀ o' h', DiskAt o' h' τ d { D with sure := doI D.sure c } → Step (Low τ 4) o h o' h' → K (.tuple #[]) h') :
    Spec P 40 #[.pointer (some ⟨d, 1, none⟩), .agg #[.int .i64 c.area, .int .i64 c.pos, .slice ca cn cc, .bool c.cuts]] h K := by
  obtain ⟨cs, E, b1, b2, b3⟩ := hd
  have bsz := b3.size
  refine do_ok (c := c) (τ := τ) (s := 1) (m := D.sure) b1 b2 (by omega) (by omega) (by omega) b3.sure ha hc (by omega) ?_
  intro o5 h5 a5 n5 c5 g1 g2 g3 st5
  have get : ∀ j, j ≠ 1 + c.area → (cs.setIfInBounds (1 + c.area) (.slice a5 n5 c5))[j]? = cs[j]? := fun j h1 => Array.getElem?_setIfInBounds_ne (fun e => h1 e.symm)
  refine H o5 h5 ?_ (st5.mono (by rintro t (rfl | rfl) <;> exact ⟨rfl, by dsimp only; omega⟩))
  obtain ⟨wa, wn, wc, w1, w2⟩ := b3.waits
  refine ⟨_, E, g1, g2, by simpa using bsz, ?_, ?_, ?_, ⟨wa, wn, wc, ?_, w2.step st5 (by simp; omega) (by simp; omega)⟩, ?_, ?_, ?_, b3.lefts, b3.rooms, doI_len b3.ok.sures hlen, b3.ok.seens, b3.ok.chs⟩
  · rw [get 0 (by omega)]; exact b3.room
  · intro k hk
    by_cases hka : k = c.area
    · subst hka
      refine ⟨a5, n5, c5, by rw [Array.getElem?_setIfInBounds_self_of_lt (by omega)], ?_, ?_⟩
      · simp only [doI, if_true]
        exact g3
      · exact Nat.le_trans (doI_len b3.ok.sures hlen _ hk) (by omega)
    · obtain ⟨a, n, cp, e1, e2, e3⟩ := b3.sure k hk
      refine ⟨a, n, cp, by rw [get _ (by omega)]; exact e1, ?_, ?_⟩
      · simp only [doI, if_neg hka]
        exact e2.step st5 (by simp; omega)
      · simp only [doI, if_neg hka]
        exact e3
  · exact (b3.seen.step st5 (by intro k hk; simp; omega)).cells fun k hk => get _ (by omega)
  · rw [get 7 (by omega)]; exact w1
  · rw [get 8 (by omega)]; exact b3.armed
  · rw [get 9 (by omega)]; exact b3.left
  · rw [get 10 (by omega)]; exact b3.gone

/-! ### What a crash does -/
def bitC (sc : Int) (k : Nat) : Bool := bAnd .u64 (sShr .u64 sc k) 1 == 1
def tornC (torn : Int) (c : Ch) : Ch := { c with bytes := c.bytes.take torn.toNat }
def crash1 (kept : Nat) (sc torn : Int) (i : Nat) (c : Ch) (m : Nat → Bytes) : Nat → Bytes :=
  if i < kept ∨ (i - kept < 63 ∧ bitC sc (i - kept) = true) then doI m c
  else if i = kept ∧ c.cuts = false ∧ 0 < (tornC torn c).bytes.length then doI m (tornC torn c) else m
def crashL (kept : Nat) (sc torn : Int) : Nat → List Ch → (Nat → Bytes) → Nat → Bytes
  | _, [], m => m
  | i, c :: l, m => crashL kept sc torn (i + 1) l (crash1 kept sc torn i c m)
def keptN (D : DS) (kept : Int) : Nat := min kept.toNat D.waits.length
def crashD (D : DS) (kept sc torn : Int) : DS :=
  let m := crashL (keptN D kept) sc torn 0 D.waits D.sure
  ⟨D.room, m, m, [], false, 0, false⟩

def CrI (o : Own) (h : Hp) (τ d : Nat) (D : DS) (kept sc torn : Int) (wa : Option Addr) (wc : Nat) (ns : List Nat) (y0 : Addr) (y1 y2 y3 : Int) (y22 : Option Addr) (y22n y22c : Nat) (y23 y24 : Int) (hh : Hp) : Prop :=
  ∃ (i : Nat) (o' : Own) (m : Nat → Bytes), ns = [D.waits.length - i] ∧ i ≤ D.waits.length ∧ y0 = ⟨d, 0, none⟩ ∧ y1 = (keptN D kept : Nat) ∧ y2 = sc ∧ y3 = torn ∧
      y22 = wa ∧ y22n = D.waits.length ∧ y22c = wc ∧ y23 = D.waits.length ∧ y24 = i ∧ DiskAt o' hh τ d { D with sure := m } ∧ Step (Low τ 4) o h o' hh ∧
      crashL (keptN D kept) sc torn i (D.waits.drop i) m = crashL (keptN D kept) sc torn 0 D.waits D.sure
/-- (*disk.Disk).Crash -/
theorem crash_ok {o : Own} {h : Hp} {τ d : Nat} {D : DS} {kept sc torn : Int} {K : Value → Hp → Prop} (hd : DiskAt o h τ d D) (hτ : 2 ≤ τ)
    (H : ∀ o' h', DiskAt o' h' τ d (crashD D kept sc torn) → Step (Of τ) o h o' h' → K (.tuple #[]) h') :
    Spec P 14 #[.pointer (some ⟨d, 0, none⟩), .int .i64 kept, .int .u64 sc, .int .i64 torn] h K := by
  obtain ⟨cs0, E0, b1, b2, b3⟩ := id hd
  obtain ⟨wa, wn, wc, w1, ⟨xs, w2, w3, w4⟩⟩ := b3.waits
  have hwn : wn = D.waits.length := w3.count w2.read (by omega)
  subst hwn
  have hmm : mxI 0 (mnI kept ((D.waits.length : Nat) : Int)) = ((keptN D kept : Nat) : Int) := by unfold mxI mnI keptN; (repeat' split) <;> omega
  have hkn : keptN D kept ≤ D.waits.length := by unfold keptN; omega
  refine S14 (I26 := CrI o h τ d D kept sc torn wa wc) ?_ ?_
  · rintro n y0 y1 y2 y3 y22 y22n y22c y23 y24 hh ⟨i, o', m, hns, hi, rfl, rfl, rfl, rfl, rfl, rfl, rfl, rfl, rfl, hd1, st1, hm⟩
    obtain rfl : n = D.waits.length - i := by simpa using hns
    have wr := (w2.step st1 (by simp [Low])).read
    have wrow := w3.mono fun x cl _ hx => hx.step st1 (by simp [Low]; omega)
    unfold V14_26
    refine bIf_dec (fun hlt => ?_) (fun hge => ?_)
    · have hlt' : i < D.waits.length := by omega
      obtain ⟨c, hc⟩ : ∃ c, D.waits[i]? = some c := ⟨D.waits[i], by simp [hlt']⟩
      have hdrop : D.waits.drop i = c :: D.waits.drop (i + 1) := by
        rw [List.drop_eq_getElem_cons hlt']
        congr 1
        simpa [hlt'] using hc
      rw [hdrop] at hm
      have hmem : c ∈ D.waits := List.mem_of_getElem? hc
      obtain ⟨b, off, cs, E, fr, cl, e1, e2, e3, e4, ⟨ca, cn, cc, rfl, ha, hca, _⟩, e5⟩ := wr.row wrow hc (by omega)
      have hlen : c.pos + c.bytes.length ≤ 1048576 := b3.ok.chs c hmem
      have hcn : cn = c.bytes.length := len_rc hca
      subst hcn
      -- the step, when it is done
      have next : ∀ (o2 : Own) (h2 : Hp) (m' : Nat → Bytes), m' = crash1 (keptN D kept) y2 y3 i c m → DiskAt o2 h2 τ d { D with sure := m' } → Step (Low τ 4) o h o2 h2 →
          ∃ k, k < D.waits.length - i ∧ CrI o h τ d D kept y2 y3 y22 y22c [k] ⟨d, 0, none⟩ ((keptN D kept : Nat) : Int) y2 y3 y22 D.waits.length y22c (D.waits.length : Int) (IntKind.i64.wrap ((i : Int) + 1)) h2 := by
        intro o2 h2 m' e hd2 st2
        refine ⟨D.waits.length - (i + 1), by omega, i + 1, o2, m', rfl, hlt', rfl, rfl, rfl, rfl, rfl, rfl, rfl, rfl, ?_, hd2, st2, by rw [e]; exact hm⟩
        rw [wrap_i64] <;> omega
      have hix : ∀ Q : Addr → Prop, Q ⟨b, off + i * 4, none⟩ → ixA P 75 (.slice y22 D.waits.length y22c) (.int .i64 (i : Int)) hh Q := by
        intro Q hQ
        rw [e1]
        exact ix_slice elem75 (by omega) (by omega) (by rw [Int.toNat_natCast]; exact hQ)
      refine hix _ ?_
      refine ld_i e3 (e5 0 _ rfl) ?_
      refine ld_i e3 (e5 1 _ rfl) ?_
      refine ld_l e3 (e5 2 _ rfl) ?_
      refine ld_b e3 (e5 3 _ rfl) ?_
      intro r hr
      have hr0 : h r = none := by
        cases hq : h r with
        | none => rfl
        | some q => exact absurd hr (st1.stays r (by simp [hq]))
      refine st_v (Hp.set_same _ _ _) (Loose.zero _) rfl (by simp) ?_
      refine st_v (Hp.set_same _ _ _) (Loose.zero _) rfl (by simp) ?_
      refine st_v (Hp.set_same _ _ _) (Loose.zero _) rfl (by simp) ?_
      refine st_v (Hp.set_same _ _ _) (Loose.zero _) rfl (by simp) ?_
      rw [Hp.set_set, Hp.set_set, Hp.set_set, Hp.set_set]
      have st2 : Step (Low τ 4) o h (o'.set r (1, 0)) _ := st1.trans (Step.new (.cells #[.int .i64 c.area, .int .i64 c.pos, .slice ca c.bytes.length cc, .bool c.cuts] 81) (1, 0) hr)
      have st2' : Step (fun _ => False) o' hh (o'.set r (1, 0)) _ := Step.new (.cells #[.int .i64 c.area, .int .i64 c.pos, .slice ca c.bytes.length cc, .bool c.cuts] 81) (1, 0) hr
      have hr2 : (hh.set r (.cells #[.int .i64 c.area, .int .i64 c.pos, .slice ca c.bytes.length cc, .bool c.cuts] 81)) r = some (.cells #[.int .i64 c.area, .int .i64 c.pos, .slice ca c.bytes.length cc, .bool c.cuts] 81) := Hp.set_same _ _ _
      have or2 : (o'.set r (1, 0)) r = (1, 0) := Own.set_same _ _ _
      change bIf _ (V14_s6758 _ _ _ _ _ _ _ _ _ _ _ _ _ _ _ (hh.set r (.cells #[.int .i64 c.area, .int .i64 c.pos, .slice ca c.bytes.length cc, .bool c.cuts] 81))) (bIf _ (oRd _ _ (hh.set r (.cells #[.int .i64 c.area, .int .i64 c.pos, .slice ca c.bytes.length cc, .bool c.cuts] 81)) fun v61 => asIn .u64 v61 fun n62 => V14_s6758 _ _ _ _ _ _ _ _ _ _ _ _ _ _ _ (hh.set r (.cells #[.int .i64 c.area, .int .i64 c.pos, .slice ca c.bytes.length cc, .bool c.cuts] 81))) (V14_s6758 _ _ _ _ _ _ _ _ _ _ _ _ _ _ _ (hh.set r (.cells #[.int .i64 c.area, .int .i64 c.pos, .slice ca c.bytes.length cc, .bool c.cuts] 81))))
      generalize hh.set r (.cells #[.int .i64 c.area, .int .i64 c.pos, .slice ca c.bytes.length cc, .bool c.cuts] 81) = h2 at *
      generalize o'.set r (1, 0) = o2 at *
      have hd2 := hd1.step st2' (by simp) (by simp)
      have hca2 := (hca.step st2' (by simp))
      have full : (i < keptN D kept ∨ (i - keptN D kept < 63 ∧ bitC y2 (i - keptN D kept) = true)) → ∀ y10, V14_s6758 (CrI o h τ d D kept y2 y3 y22 y22c) K (D.waits.length - i) ⟨d, 0, none⟩ ((keptN D kept : Nat) : Int) y2 y3 ⟨r, 0, none⟩ y10 y22 D.waits.length y22c (D.waits.length : Int) (i : Int) true h2 := by
        intro hyes y10
        unfold V14_s6758
        refine bIf_t rfl ?_
        refine ld_i hr2 rfl ?_
        refine ld_i hr2 rfl ?_
        refine ld_l hr2 rfl ?_
        refine ld_b hr2 rfl ?_
        refine sure_do (c := c) hd2 hτ ha hca2 hlen ?_
        intro o3 h3 hd3 st3
        exact next o3 h3 _ (by unfold crash1; rw [if_pos hyes]) hd3 (st2.trans st3)
      have part : ¬ (i < keptN D kept ∨ (i - keptN D kept < 63 ∧ bitC y2 (i - keptN D kept) = true)) → V14_s6758 (CrI o h τ d D kept y2 y3 y22 y22c) K (D.waits.length - i) ⟨d, 0, none⟩ ((keptN D kept : Nat) : Int) y2 y3 ⟨r, 0, none⟩ ((i - keptN D kept : Nat) : Int) y22 D.waits.length y22c (D.waits.length : Int) (i : Int) false h2 := by
        intro hno
        unfold V14_s6758
        refine bIf_f rfl ?_
        have skip : ¬ (i = keptN D kept ∧ c.cuts = false ∧ 0 < (tornC y3 c).bytes.length) → ∃ k, k < D.waits.length - i ∧ CrI o h τ d D kept y2 y3 y22 y22c [k] ⟨d, 0, none⟩ ((keptN D kept : Nat) : Int) y2 y3 y22 D.waits.length y22c (D.waits.length : Int) (IntKind.i64.wrap ((i : Int) + 1)) h2 := by
          intro hn
          exact next o2 h2 m (by unfold crash1; rw [if_neg hno, if_neg hn]) hd2 st2
        refine bIf_ite (fun h0 => ?_) (fun h0 => ?_)
        · have hik : i = keptN D kept ∨ i < keptN D kept := by
            have : ((i - keptN D kept : Nat) : Int) = 0 := by simpa using h0
            omega
          refine ld_b hr2 rfl ?_
          unfold V14_s27035
          refine bIf_ite (fun hcut => ?_) (fun hcut => ?_)
          · have hcut : c.cuts = false := by simpa using hcut
            refine ld_l hr2 rfl ?_
            refine ld_l hr2 rfl ?_
            have hcc := hca2.2.1
            have em : mxI 0 (mnI y3 ((c.bytes.length : Nat) : Int)) = ((min y3.toNat c.bytes.length : Nat) : Int) := by unfold mxI mnI; (repeat' split) <;> omega
            rw [em]
            refine sl_hi elem24 (by omega) (by omega) ?_
            rw [Int.toNat_natCast]
            refine st_to (v := .slice ca (min y3.toNat c.bytes.length) cc) (cs' := #[.int .i64 c.area, .int .i64 c.pos, .slice ca (min y3.toNat c.bytes.length) cc, .bool c.cuts]) hr2 (Loose.zero _) rfl (by simp) rfl ?_
            rintro h4 hh4
            have tl : (tornC y3 c).bytes.length = min y3.toNat c.bytes.length := by simp [tornC]
            have st4 : Step (Low τ 4) o h o2 _ := st2.putNew (.cells #[.int .i64 c.area, .int .i64 c.pos, .slice ca (min y3.toNat c.bytes.length) cc, .bool c.cuts] 81) hr0
            have st4' : Step (fun t => t = (1, 0)) o2 h2 o2 _ := Step.put (.cells #[.int .i64 c.area, .int .i64 c.pos, .slice ca (min y3.toNat c.bytes.length) cc, .bool c.cuts] 81) or2
            have hr4 : (h2.set r (.cells #[.int .i64 c.area, .int .i64 c.pos, .slice ca (min y3.toNat c.bytes.length) cc, .bool c.cuts] 81)) r = some (.cells #[.int .i64 c.area, .int .i64 c.pos, .slice ca (min y3.toNat c.bytes.length) cc, .bool c.cuts] 81) := Hp.set_same _ _ _
            have hd4 := hd2.step st4' (by simp) (by simp; omega)
            have hca4 := hca2.step st4' (by simp)
            rw [← hh4] at hr4 st4 st4' hd4 hca4
            refine ld_l hr4 rfl ?_
            refine bIf_dec (fun hpos => ?_) (fun hpos => ?_)
            · refine ld_i hr4 rfl ?_
              refine ld_i hr4 rfl ?_
              refine ld_l hr4 rfl ?_
              refine ld_b hr4 rfl ?_
              refine sure_do (c := tornC y3 c) hd4 hτ ha ?_ (by rw [tl]; show c.pos + _ ≤ _; omega) ?_
              · have := hca4.take (m := min y3.toNat c.bytes.length) (by omega)
                have e : (c.bytes.map bc).take (min y3.toNat c.bytes.length * 1) = (tornC y3 c).bytes.map bc := by
                  rw [← List.map_take, Nat.mul_one]
                  congr 1
                  rw [← List.take_eq_take_min]
                  rfl
                rw [e] at this
                exact this
              · intro o5 h5 hd5 st5
                exact next o5 h5 _ (by unfold crash1; rw [if_neg hno, if_pos ⟨by omega, hcut, by omega⟩]) hd5 (st4.trans st5)
            · exact next o2 h4 m (by unfold crash1; rw [if_neg hno, if_neg (by omega)]) hd4 st4
          · exact skip (by simp at hcut; simp [hcut])
        · refine bIf_f rfl ?_
          exact skip (by
            have : ¬ ((i - keptN D kept : Nat) : Int) = 0 := by simpa using h0
            omega)
      by_cases hk : i < keptN D kept
      · refine bIf_t ?_ (full (.inl hk) _)
        rw [wrap_i64 (by omega) (by omega)]
        simp; omega
      · have ek : IntKind.i64.wrap ((i : Int) - ((keptN D kept : Nat) : Int)) = ((i - keptN D kept : Nat) : Int) := by rw [wrap_i64] <;> omega
        rw [ek]
        refine bIf_f (by simp) ?_
        refine bIf_dec (fun h63 => ?_) (fun h63 => ?_)
        · refine shr_i (by omega) ?_
          refine asIn_i ?_
          change V14_s6758 _ _ _ _ _ _ _ _ _ _ _ _ _ _ (bitC y2 (i - keptN D kept)) _
          cases hb : bitC y2 (i - keptN D kept)
          · exact part (by rw [hb]; simp; omega)
          · exact full (.inr ⟨by omega, hb⟩) _
        · exact part (by omega)
    · obtain rfl : i = D.waits.length := by omega
      rw [List.drop_length] at hm
      change m = _ at hm
      obtain ⟨cs, E, c1, c2, c3⟩ := hd1
      have bsz := c3.size
      obtain ⟨A, C, hAC⟩ := c3.sure.three
      refine ld_l c1 (hAC 0 (by omega)).1 ?_
      refine ld_l c1 (hAC 1 (by omega)).1 ?_
      refine ld_l c1 (hAC 2 (by omega)).1 ?_
      refine copied_ok (τ := τ) (s := 4) (m := m) (A := A) (C := C) (t := fun j => (τ, 1 + j)) (fun j hj => ⟨(hAC j hj).2.1.read, by simp, (hAC j hj).2.2⟩) (by omega) ?_
      intro o2 h2 a0 cc0 a1 cc1 a2 cc2 f0 f1 f2 st2
      obtain ⟨d2, od2⟩ := st2.at c1 (by simp)
      rw [c2] at od2
      refine asAg_i (unc_i (asSl_i (unc_i (asSl_i (unc_i (asSl_i (nilL_i ?_)))))))
      refine st_v d2 (Loose.zero _) (v := .slice a0 (m 0).length cc0) rfl (by dsimp only; omega) ?_
      refine st_v (Hp.set_same _ _ _) (Loose.zero _) (v := .slice a1 (m 1).length cc1) rfl (by simp; omega) ?_
      refine st_v (Hp.set_same _ _ _) (Loose.zero _) (v := .slice a2 (m 2).length cc2) rfl (by simp; omega) ?_
      refine st_v (Hp.set_same _ _ _) (Loose.zero _) (v := .slice none 0 0) rfl (by simp; omega) ?_
      refine st_v (Hp.set_same _ _ _) (Loose.zero _) (v := .bool false) rfl (by simp; omega) ?_
      refine st_v (Hp.set_same _ _ _) (Loose.zero _) (v := .int .i64 0) rfl (by simp; omega) ?_
      refine st_v (Hp.set_same _ _ _) (Loose.zero _) (v := .bool false) rfl (by simp; omega) ?_
      rw [Hp.set_set, Hp.set_set, Hp.set_set, Hp.set_set, Hp.set_set, Hp.set_set]
      generalize hcs' : ((((((cs.setIfInBounds (0 + 4) (.slice a0 (m 0).length cc0)).setIfInBounds (0 + 5) (.slice a1 (m 1).length cc1)).setIfInBounds (0 + 6) (.slice a2 (m 2).length cc2)).setIfInBounds (0 + 7) (.slice none 0 0)).setIfInBounds (0 + 8) (.bool false)).setIfInBounds (0 + 9) (.int .i64 0)).setIfInBounds (0 + 10) (.bool false) = cs'
      have hsz : cs'.size = 11 := by rw [← hcs']; simpa using bsz
      have get : ∀ j, j < 4 → cs'[j]? = cs[j]? := by
        intro j h1
        rw [← hcs']
        simp only [Array.getElem?_setIfInBounds_ne (show ¬ (0 + 4 = j) by omega), Array.getElem?_setIfInBounds_ne (show ¬ (0 + 5 = j) by omega), Array.getElem?_setIfInBounds_ne (show ¬ (0 + 6 = j) by omega), Array.getElem?_setIfInBounds_ne (show ¬ (0 + 7 = j) by omega),
          Array.getElem?_setIfInBounds_ne (show ¬ (0 + 8 = j) by omega), Array.getElem?_setIfInBounds_ne (show ¬ (0 + 9 = j) by omega), Array.getElem?_setIfInBounds_ne (show ¬ (0 + 10 = j) by omega)]
      have g4 : cs'[4]? = some (.slice a0 (m 0).length cc0) := by rw [← hcs']; simp [Array.getElem?_setIfInBounds, bsz]
      have g5 : cs'[5]? = some (.slice a1 (m 1).length cc1) := by rw [← hcs']; simp [Array.getElem?_setIfInBounds, bsz]
      have g6 : cs'[6]? = some (.slice a2 (m 2).length cc2) := by rw [← hcs']; simp [Array.getElem?_setIfInBounds, bsz]
      have g7 : cs'[7]? = some (.slice none 0 0) := by rw [← hcs']; simp [Array.getElem?_setIfInBounds, bsz]
      have g8 : cs'[8]? = some (.bool false) := by rw [← hcs']; simp [Array.getElem?_setIfInBounds, bsz]
      have g9 : cs'[9]? = some (.int .i64 0) := by rw [← hcs']; simp [Array.getElem?_setIfInBounds, bsz]
      have g10 : cs'[10]? = some (.bool false) := by rw [← hcs']; simp [Array.getElem?_setIfInBounds, bsz]
      have st3 : Step (fun t => t = (τ, 0)) o2 h2 o2 (h2.set d (.cells cs' E (0, 0))) := Step.put _ od2
      have fin : DiskAt o2 (h2.set d (.cells cs' E (0, 0))) τ d (crashD D kept y2 y3) := by
        have e : crashD D kept y2 y3 = ⟨D.room, m, m, [], false, 0, false⟩ := by unfold crashD; rw [← hm]
        rw [e]
        refine ⟨cs', E, Hp.set_same _ _ _, od2, hsz, ?_, ?_, ?_, ⟨none, 0, 0, g7, [], Oc.nil _, rfl, by simp⟩, g8, g9, g10, by simp, c3.rooms, ⟨c3.ok.sures, c3.ok.sures, by simp⟩⟩
        · rw [get 0 (by omega)]; exact c3.room
        · exact ((c3.sure.step st2 (by simp)).step st3 (by intro k hk; simp)).cells fun k hk => get _ (by omega)
        · intro k hk
          obtain rfl | rfl | rfl : k = 0 ∨ k = 1 ∨ k = 2 := by omega
          · exact ⟨_, _, _, g4, f0.step st3 (by simp), (hAC 0 hk).2.2⟩
          · exact ⟨_, _, _, g5, f1.step st3 (by simp), (hAC 1 hk).2.2⟩
          · exact ⟨_, _, _, g6, f2.step st3 (by simp), (hAC 2 hk).2.2⟩
      exact H _ _ fin (((st1.mono (fun t ht => ht.1)).trans (st2.mono (by simp))).trans (st3.mono (by rintro _ rfl; rfl)))
  · unfold V14
    refine ld_l b1 w1 ?_
    refine ld_l b1 w1 ?_
    refine ⟨D.waits.length, 0, o, D.sure, rfl, by omega, rfl, ?_, rfl, rfl, rfl, rfl, rfl, rfl, rfl, hd, .refl _ _ _, rfl⟩
    exact hmm
end Go.Proofs.YtcolhmddhaabnaaDoor
