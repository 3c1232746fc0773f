import Derived.Test.YtcolhmddhaabnaaDoorSha
import Derived.Test.YtcolhmddhaabnaaDoorVx
import Derived.Test.YtcolhmddhaabnaaDoorVw
import Derived.Test.YtcolhmddhaabnaaDoorKeep
set_option linter.unusedVariables false
set_option maxRecDepth 100000
namespace Go.Proofs.YtcolhmddhaabnaaDoor
open Go.H
/-! ### wal.number, wal.numbered, wal.sum; slices.Equal, slices.Concat -/
def byI (v : Int) : UInt8 := UInt8.ofNat (IntKind.u8.wrap v).toNat
def numB (n : Int) : Bytes := [byI (sShr .i64 n 24), byI (sShr .i64 n 16), byI (sShr .i64 n 8), byI n]
theorem number_ok {o : Own} {h : Hp} {n : Int} {t : Tag} {K : Value → Hp → Prop} (H : ∀ o' h' r, Rc o' h' t 1 (some ⟨r, 0, none⟩) 4 4 ((numB n).map bc) → Step (fun _ => False) o h o' h' → K (.slice (some ⟨r, 0, none⟩) 4 4) h') :
    Spec P 62 #[.int .i64 n] h K := by
  refine S62 ?_
  unfold V62
  refine nw_to ?_
  intro r h1 hr hh1
  rw [byte_wrap, byte_wrap, byte_wrap, byte_wrap] at hh1
  have hb : h1 r = some (.cells #[bc (byI (sShr .i64 n 24)), bc (byI (sShr .i64 n 16)), bc (byI (sShr .i64 n 8)), bc (byI n)] 5) := by rw [hh1]; exact Hp.set_same _ _ _
  refine H (o.set r t) h1 r ⟨rfl, Nat.le_refl _, .inr ⟨r, 0, _, _, _, rfl, Own.set_same _ _ _, hb, ?_⟩⟩ (by rw [hh1]; exact Step.new _ _ hr)
  intro i v hi
  match i, hi with
  | 0, hi => cases hi; rfl
  | 1, hi => cases hi; rfl
  | 2, hi => cases hi; rfl
  | 3, hi => cases hi; rfl
  | i + 4, hi => simp [numB] at hi
def numAt (l : Bytes) (p : Nat) : Int :=
  bOr .i64 (bOr .i64 (bOr .i64 (sShl .i64 (IntKind.i64.wrap (bAt l p)) 24) (sShl .i64 (IntKind.i64.wrap (bAt l (p + 1))) 16)) (sShl .i64 (IntKind.i64.wrap (bAt l (p + 2))) 8)) (IntKind.i64.wrap (bAt l (p + 3)))
theorem numbered_ok {o : Own} {h : Hp} {t : Tag} {a : Option Addr} {n c p : Nat} {l : Bytes} {K : Value → Hp → Prop} (hx : Rc o h t 1 a n c (l.map bc)) (hp : p + 4 ≤ l.length) (hl : l.length ≤ 1099511627776)
    (H : K (.int .i64 (numAt l p)) h) : Spec P 75 #[.slice a n c, .int .i64 (p : Int)] h K := by
  refine S75 ?_
  unfold V75
  have w1 : ∀ k : Nat, k < 4 → IntKind.i64.wrap ((p : Int) + k) = ((p + k : Nat) : Int) := by intro k hk; rw [wrap_i64] <;> omega
  refine rc_byte hx rfl (by omega) ?_
  refine rc_byte hx (w1 1 (by omega)) (by omega) ?_
  refine rc_byte hx (w1 2 (by omega)) (by omega) ?_
  refine rc_byte hx (w1 3 (by omega)) (by omega) ?_
  exact H
theorem take_next {l l' : Bytes} {i : Nat} (h : l.take i = l'.take i) (h1 : i < l.length) (h2 : i < l'.length) (he : bAt l i = bAt l' i) : l.take (i + 1) = l'.take (i + 1) := by
  have e : l[i] = l'[i] := by
    unfold bAt at he
    simp only [List.getD_eq_getElem?_getD] at he
    rw [List.getElem?_eq_getElem h1, List.getElem?_eq_getElem h2] at he
    simp only [Option.getD_some] at he
    exact UInt8.toNat_inj.1 (by omega)
  rw [List.take_add_one, List.take_add_one, h, List.getElem?_eq_getElem h1, List.getElem?_eq_getElem h2, e]
def EqI (h : Hp) (a : Option Addr) (c : Nat) (a' : Option Addr) (c' : Nat) (l l' : Bytes) (ns : List Nat) (y0 : Option Addr) (y0n y0c : Nat) (y1 : Option Addr) (y1n y1c : Nat) (y12 y13 : Int) (hh : Hp) : Prop :=
  ∃ i : Nat, ns = [l.length - i] ∧ i ≤ l.length ∧ y0 = a ∧ y0n = l.length ∧ y0c = c ∧ y1 = a' ∧ y1n = l'.length ∧ y1c = c' ∧ y12 = (l.length : Int) ∧ y13 = i ∧ hh = h ∧ l.take i = l'.take i
theorem equal_ok {o : Own} {h : Hp} {t t' : Tag} {a a' : Option Addr} {n c n' c' : Nat} {l l' : Bytes} {K : Value → Hp → Prop} (hx : Rc o h t 1 a n c (l.map bc)) (hx' : Rc o h t' 1 a' n' c' (l'.map bc)) (hlen : l.length ≤ 1099511627776)
    (H : K (.bool (l == l')) h) : Spec P 76 #[.slice a n c, .slice a' n' c'] h K := by
  obtain rfl := len_rc hx
  obtain rfl := len_rc hx'
  by_cases hne : l.length = l'.length
  · refine S76 (EqI h a c a' c' l l') ?_ ?_
    · rintro k y0 y0n y0c y1 y1n y1c y12 y13 hh ⟨i, hns, hi, rfl, rfl, rfl, rfl, rfl, rfl, rfl, rfl, rfl, ht⟩
      obtain rfl : k = l.length - i := by simpa using hns
      unfold V76_58
      refine bIf_dec (fun hlt => ?_) (fun hge => ?_)
      · have h1 : i < l.length := by omega
        refine rc_byte hx rfl h1 ?_
        refine rc_byte hx' rfl (by omega) ?_
        refine bIf_ite (fun hd => ?_) (fun hd => ?_)
        · have : (l == l') = false := by
            rw [beq_eq_false_iff_ne]
            rintro rfl
            simp at hd
          rw [this] at H
          exact H
        · have he : bAt l i = bAt l' i := by simpa using hd
          refine ⟨l.length - (i + 1), by omega, i + 1, rfl, h1, rfl, rfl, rfl, rfl, rfl, rfl, rfl, ?_, rfl, take_next ht h1 (by omega) he⟩
          rw [wrap_i64] <;> omega
      · obtain rfl : i = l.length := by omega
        have : l = l' := by
          rw [List.take_length] at ht
          rw [ht, hne, List.take_length]
        subst this
        simpa using H
    · unfold V76
      refine bIf_f (by rw [hne]; simp) ?_
      exact ⟨l.length, 0, rfl, by omega, rfl, rfl, rfl, rfl, rfl, rfl, rfl, rfl, rfl, rfl⟩
  · refine S76 (fun _ _ _ _ _ _ _ _ _ _ => False) ?_ ?_
    · intro k y0 y0n y0c y1 y1n y1c y12 y13 hh hf
      exact hf.elim
    · unfold V76
      refine bIf_t (by simp; omega) ?_
      have : (l == l') = false := by
        rw [beq_eq_false_iff_ne]
        rintro rfl
        exact hne rfl
      rw [this] at H
      exact H
/-! ### slices.Grow of nothing, slices.Concat -/
theorem grow_ok {o : Own} {h : Hp} {x : Int} {t : Tag} {K : Value → Hp → Prop} (h0 : 0 ≤ x) (h1 : x ≤ 1099511627776)
    (H : ∀ o' h' a c, Oc o' h' t 1 a 0 c [] → Step (Only t) o h o' h' → K (.slice a 0 c) h') : Spec P 77 #[.slice none 0 0, .int .i64 x] h K := by
  refine S77 ?_
  unfold V77
  refine bIf_dec (fun hlt => absurd hlt (by omega)) (fun _ => ?_)
  unfold V77_s3
  have w : IntKind.i64.wrap (x - IntKind.i64.wrap (((0 : Nat) : Int) - ((0 : Nat) : Int))) = x := by rw [wrap_i64 (n := ((0 : Nat) : Int) - ((0 : Nat) : Int)) (by omega) (by omega), wrap_i64 (by omega) (by omega)]; omega
  rw [w]
  refine bIf_dec (fun hgt => ?_) (fun hle => ?_)
  · refine sl_hi elem24 (by omega) (by omega) ?_
    refine append_zeros (o := o) (t := t) elem24 int3 zero5 rfl (Oc.nil none) h0 (by simp; omega) (by simp; omega) (by omega) ?_
    intro a' c' o' h' k1 st
    refine asSl_i ?_
    refine sl_hi elem24 (by omega) (by omega) ?_
    have := k1.take (m := 0) (by omega)
    exact H o' h' a' c' (by simpa using this) st
  · exact H o h none 0 (Oc.nil _) (.refl _ _ _)
def sumL (l : List Bytes) : Nat := (l.map List.length).sum
theorem sumL_snoc (l : List Bytes) (p : Bytes) : sumL (l ++ [p]) = sumL l + p.length := by simp [sumL]
theorem sumL_take_le (l : List Bytes) (i : Nat) : sumL (l.take i) ≤ sumL l := by
  have e := List.take_append_drop i l
  have h2 : sumL (l.take i ++ l.drop i) = sumL (l.take i) + sumL (l.drop i) := by unfold sumL; rw [List.map_append, List.sum_append_nat]
  rw [e] at h2
  omega
theorem flat_len (l : List Bytes) : l.flatten.length = sumL l := by simp [sumL, List.length_flatten]
def CcI (h : Hp) (a : Option Addr) (cp : Nat) (l : List Bytes) (ns : List Nat) (y0 : Option Addr) (y0n y0c : Nat) (y3 : Int) (y9 : Option Addr) (y9n y9c : Nat) (y10 y11 : Int) (hh : Hp) : Prop :=
  ∃ i : Nat, ns = [l.length - i] ∧ i ≤ l.length ∧ y0 = a ∧ y0n = l.length ∧ y0c = cp ∧ y3 = (sumL (l.take i) : Int) ∧ y9 = a ∧ y9n = l.length ∧ y9c = cp ∧ y10 = (l.length : Int) ∧ y11 = i ∧ hh = h
def CcJ (h : Hp) (a : Option Addr) (cp : Nat) (l : List Bytes) (ns : List Nat) (y6 : Option Addr) (y6n y6c : Nat) (y25 : Option Addr) (y25n y25c : Nat) (y26 y27 : Int) (hh : Hp) : Prop :=
  ∃ (i : Nat) (o' : Own), ns = [l.length - i] ∧ i ≤ l.length ∧ Oc o' hh (1, 1) 1 y6 y6n y6c ((l.take i).flatten.map bc) ∧ y25 = a ∧ y25n = l.length ∧ y25c = cp ∧ y26 = (l.length : Int) ∧ y27 = i ∧ Step Mut ownZ h o' hh
theorem concat_ok {o : Own} {h : Hp} {t t' : Tag} {a : Option Addr} {n cp : Nat} {l : List Bytes} {K : Value → Hp → Prop} (hl : PartsAt o h t a n cp l) (hb : sumL l ≤ 1073741824) (hb2 : l.length ≤ 1073741824)
    (H : ∀ o' h' a' c', Oc o' h' t' 1 a' (sumL l) c' (l.flatten.map bc) → Step (fun _ => False) o h o' h' → K (.slice a' (sumL l) c') h') : Spec P 61 #[.slice a n cp] h K := by
  have hl0 := hl.own0
  obtain rfl : n = l.length := hl.count
  have hle := sumL_take_le l
  refine S61 (CcI h a cp l) (CcJ h a cp l) ?_ ?_ ?_
  · rintro k y0 y0n y0c y3 y9 y9n y9c y10 y11 hh ⟨i, hns, hi, rfl, rfl, rfl, rfl, rfl, rfl, rfl, rfl, rfl, rfl⟩
    obtain rfl : k = l.length - i := by simpa using hns
    unfold V61_58
    refine bIf_dec (fun hlt => ?_) (fun hge => ?_)
    · obtain ⟨p, hp⟩ : ∃ p, l[i]? = some p := ⟨l[i]'(by omega), by simp⟩
      obtain ⟨a', m', c', g1, g2⟩ := hl0.row hp
      have hm := len_rc g1
      have e : l.take (i + 1) = l.take i ++ [p] := by rw [List.take_add_one, hp]; rfl
      have hs := hle (i + 1)
      have hs2 : sumL (l.take (i + 1)) = sumL (l.take i) + p.length := by rw [e, sumL_snoc]
      refine g2 _ ?_
      have w : IntKind.i64.wrap ((sumL (l.take i) : Int) + ((m' : Nat) : Int)) = (sumL (l.take (i + 1)) : Int) := by rw [wrap_i64] <;> omega
      rw [w]
      refine bIf_dec (fun hlt => absurd hlt (by omega)) (fun _ => ?_)
      refine ⟨l.length - (i + 1), by omega, i + 1, rfl, by omega, rfl, rfl, rfl, rfl, rfl, rfl, rfl, rfl, ?_, rfl⟩
      rw [wrap_i64] <;> omega
    · obtain rfl : i = l.length := by omega
      refine grow_ok (o := ownZ) (t := (1, 1)) (by omega) (by have := hle l.length; omega) ?_
      intro o2 h2 a2 c2 k1 st2
      refine asSl_i ?_
      exact ⟨l.length, 0, o2, rfl, by omega, by simpa using k1, rfl, rfl, rfl, rfl, rfl, st2.mono (by rintro _ rfl; unfold Mut; simp)⟩
  · rintro k y6 y6n y6c y25 y25n y25c y26 y27 hh ⟨i, o', hns, hi, hoc, rfl, rfl, rfl, rfl, rfl, st0⟩
    obtain rfl : k = l.length - i := by simpa using hns
    have hn6 := len_of hoc
    rw [flat_len] at hn6
    unfold V61_250
    refine bIf_dec (fun hlt => ?_) (fun hge => ?_)
    · obtain ⟨p, hp⟩ : ∃ p, l[i]? = some p := ⟨l[i]'(by omega), by simp⟩
      obtain ⟨a', m', c', g1, g2⟩ := (hl0.step st0 (by unfold Mut; simp) (by unfold Mut; simp)).row hp
      have hm := len_rc g1
      have e : l.take (i + 1) = l.take i ++ [p] := by rw [List.take_add_one, hp]; rfl
      have hs := hle (i + 1)
      have hs2 : sumL (l.take (i + 1)) = sumL (l.take i) + p.length := by rw [e, sumL_snoc]
      refine g2 _ ?_
      refine append_own (t := (1, 1)) elem24 hoc g1.src plain_bc (by omega) (by omega) ?_
      intro a2 c2 o2 h2 k1 st2 _
      refine asSl_i ?_
      refine ⟨l.length - (i + 1), by omega, i + 1, o2, rfl, by omega, ?_, rfl, rfl, rfl, rfl, ?_, st0.trans (st2.mono (by rintro _ rfl; unfold Mut; simp))⟩
      · rw [e]; simpa using k1
      · rw [wrap_i64] <;> omega
    · obtain rfl : i = l.length := by omega
      rw [List.take_length] at hoc hn6
      subst hn6
      exact H _ _ _ _ (hoc.join (o := o) (f := fun _ => t') st0 (by simp)) (st0.join _)
  · unfold V61
    exact ⟨l.length, 0, rfl, by omega, rfl, rfl, rfl, by simp [sumL], rfl, rfl, rfl, rfl, rfl, rfl⟩
end Go.Proofs.YtcolhmddhaabnaaDoor
set_option linter.unusedVariables false
set_option maxRecDepth 100000
namespace Go.Proofs.YtcolhmddhaabnaaDoor
open Go.H
def first8 (D : Nat → UInt8) : Bytes := [D 0, D 1, D 2, D 3, D 4, D 5, D 6, D 7]
def sumB (c : ShaC) (gen n : Int) (text : Bytes) : Bytes := first8 (shaD c [numB gen, numB n, text])
theorem sumB_len (c : ShaC) (gen n : Int) (text : Bytes) : (sumB c gen n text).length = 8 := rfl
theorem numB_len (n : Int) : (numB n).length = 4 := rfl
/-- A new block of slices. -/
theorem parts_new {o : Own} {h : Hp} {r : Nat} {t : Tag} {l : List Bytes} {cl : List Value} (hcl : RowsOf 1 (PartAt o h) l cl) (hr : h r = none) :
    PartsAt (o.set r t) (h.set r (.cells cl.toArray 24)) t (some ⟨r, 0, none⟩) l.length l.length l := by
  have s : Step (fun _ => False) o h (o.set r t) (h.set r (.cells cl.toArray 24)) := Step.new _ _ hr
  refine ⟨cl, ⟨by have := hcl.length; omega, Nat.le_refl _, .inr ⟨r, 0, _, _, _, rfl, Own.set_same _ _ _, Hp.set_same _ _ _, ?_⟩⟩, hcl.mono fun x c _ hx => ?_⟩
  · intro i v hi
    rw [Nat.zero_add]; simpa using hi
  · obtain ⟨a, m, c', e, g⟩ := hx
    exact ⟨a, m, c', e, g.step s (by simp)⟩
theorem PartAt.one {o : Own} {h : Hp} {a : Option Addr} {m c : Nat} {p : Bytes} (H : Rc o h (0, 0) 1 a m c (p.map bc)) : PartAt o h p [.slice a m c] := ⟨a, m, c, rfl, H⟩
theorem rows1 {α : Type} {R : α → List Value → Prop} {x : α} {v : Value} {l : List α} {xs : List Value} (h : R x [v]) (hl : RowsOf 1 R l xs) : RowsOf 1 R (x :: l) (v :: xs) :=
  ⟨[v], xs, rfl, rfl, h, hl⟩
theorem wsum_ok {o : Own} {h : Hp} {c : ShaC} {tx t : Tag} {a : Option Addr} {m cp : Nat} {gen n : Int} {text : Bytes} {K : Value → Hp → Prop} (hc : ShaAt o h c) (hx : Rc o h tx 1 a m cp (text.map bc)) (hb : text.length ≤ 1073741824)
    (H : ∀ o' h' r, Rc o' h' t 1 (some ⟨r, 0, none⟩) 8 32 ((sumB c gen n text).map bc) → Step (fun _ => False) o h o' h' → K (.slice (some ⟨r, 0, none⟩) 8 32) h') : Spec P 63 #[.int .i64 gen, .int .i64 n, .slice a m cp] h K := by
  have hc0 := hc.own0
  have hx0 := hx.own0
  refine S63 ?_
  unfold V63
  refine number_ok (o := ownZ) (t := (0, 0)) ?_
  intro o1 h1 r1 k1 s1
  refine asSl_i ?_
  refine number_ok (o := o1) (t := (0, 0)) ?_
  intro o2 h2 r2 k2 s2
  refine asSl_i ?_
  refine nw_to ?_
  intro r3 h3 hr3 hh3
  have rows : RowsOf 1 (PartAt o2 h2) [numB gen, numB n, text] [.slice (some ⟨r1, 0, none⟩) 4 4, .slice (some ⟨r2, 0, none⟩) 4 4, .slice a m cp] :=
    rows1 (.one (k1.step s2 (by simp))) (rows1 (.one k2) (rows1 (.one (hx0.step (s1.trans s2) (by simp))) rfl))
  have hp := parts_new (t := (1, 3)) rows hr3
  have s3 : Step (fun _ => False) o2 h2 (o2.set r3 (1, 3)) h3 := by rw [hh3]; exact Step.new _ _ hr3
  rw [← hh3] at hp
  refine sum_ok (hc0.step ((s1.trans s2).trans s3) (by simp)) hp ?_ (by simp) ?_
  · intro p hp
    simp only [List.mem_cons, List.not_mem_nil, or_false] at hp
    rcases hp with rfl | rfl | rfl
    · simp [numB]
    · simp [numB]
    · exact hb
  intro o4 h4 s4
  unfold sumB at H
  generalize shaD c [numB gen, numB n, text] = D at *
  refine asAg_i ?_
  iterate 32
    refine unc_i ?_
    refine asIn_i ?_
  refine nilL_i ?_
  refine nw_to ?_
  intro r5 h5 hr5 hh5
  subst hh5
  refine st_v (Hp.set_same _ _ _) (Loose.zero _) rfl (by decide) ?_
  iterate 31 refine st_v (Hp.set_same _ _ _) (Loose.zero _) rfl (by simp) ?_
  simp only [Hp.set_set]
  generalize hg : Hp.set h4 r5 _ = h6
  have hg2 : h6 = h4.set r5 (.cells (L32 D).toArray 122) := hg.symm.trans (congrArg (fun C => h4.set r5 (.cells C 122)) (by kernel_rfl))
  have hb6 : h6 r5 = some (.cells (L32 D).toArray 122) := by rw [hg2]; exact Hp.set_same _ _ _
  have s6 : Step (fun _ => False) o4 h4 (o4.set r5 (1, 4)) h6 := by rw [hg2]; exact Step.new _ _ hr5
  refine sl_arr arr122 (by omega) (by omega) (by omega) ?_
  have k6 : Rc (o4.set r5 (1, 4)) h6 (1, 4) 1 (some ⟨r5, 0, none⟩) 8 32 ((first8 D).map bc) := by
    refine ⟨rfl, by omega, .inr ⟨r5, 0, _, _, _, rfl, Own.set_same _ _ _, hb6, ?_⟩⟩
    intro i v hi
    match i, hi with
    | 0, hi => cases hi; rfl
    | 1, hi => cases hi; rfl
    | 2, hi => cases hi; rfl
    | 3, hi => cases hi; rfl
    | 4, hi => cases hi; rfl
    | 5, hi => cases hi; rfl
    | 6, hi => cases hi; rfl
    | 7, hi => cases hi; rfl
    | i + 8, hi => simp [first8] at hi
  have sf : Step Mut ownZ h (o4.set r5 (1, 4)) h6 := ((((s1.trans s2).trans s3).trans s4).trans s6).no
  exact H _ _ r5 (k6.join (f := fun _ => t) sf (by simp)) (sf.join _)
/-! ### The bytes of a record, of a snapshot -/
def recB (c : ShaC) (gen n : Int) (text : Bytes) : Bytes := numB gen ++ (numB n ++ (numB text.length ++ (sumB c gen n text ++ text)))
def snapB (c : ShaC) (gen : Int) (text : Bytes) : Bytes := numB gen ++ (numB text.length ++ (sumB c gen text.length text ++ text))
theorem recB_len (c : ShaC) (gen n : Int) (text : Bytes) : (recB c gen n text).length = 20 + text.length := by simp [recB, numB_len, sumB_len]; omega
theorem snapB_len (c : ShaC) (gen : Int) (text : Bytes) : (snapB c gen text).length = 16 + text.length := by simp [snapB, numB_len, sumB_len]; omega
theorem leaf24 : leafOk P 24 = true := by kernel_rfl
theorem record_ok {o : Own} {h : Hp} {c : ShaC} {tx t : Tag} {a : Option Addr} {m cp : Nat} {gen n : Int} {text : Bytes} {K : Value → Hp → Prop} (hc : ShaAt o h c) (hx : Rc o h tx 1 a m cp (text.map bc)) (hb : text.length ≤ 1073741000)
    (H : ∀ o' h' a' c', Oc o' h' t 1 a' (recB c gen n text).length c' ((recB c gen n text).map bc) → Step (fun _ => False) o h o' h' → K (.slice a' (recB c gen n text).length c') h') : Spec P 45 #[.int .i64 gen, .int .i64 n, .slice a m cp] h K := by
  have hc0 := hc.own0
  have hx0 := hx.own0
  have hm := len_rc hx
  refine S45 ?_
  unfold V45
  refine number_ok (o := ownZ) (t := (0, 0)) ?_
  intro o1 h1 r1 k1 s1
  refine asSl_i ?_
  refine number_ok (o := o1) (t := (0, 0)) ?_
  intro o2 h2 r2 k2 s2
  refine asSl_i ?_
  refine number_ok (o := o2) (t := (0, 0)) ?_
  intro o3 h3 r3 k3 s3
  refine asSl_i ?_
  refine wsum_ok (o := o3) (t := (0, 0)) (hc0.step ((s1.trans s2).trans s3) (by simp)) (hx0.step ((s1.trans s2).trans s3) (by simp)) (by omega) ?_
  intro o4 h4 r4 k4 s4
  refine asSl_i ?_
  refine nw_to ?_
  intro r5 h5 hr5 hh5
  have rows : RowsOf 1 (PartAt o4 h4) [numB gen, numB n, numB m, sumB c gen n text, text] [.slice (some ⟨r1, 0, none⟩) 4 4, .slice (some ⟨r2, 0, none⟩) 4 4, .slice (some ⟨r3, 0, none⟩) 4 4, .slice (some ⟨r4, 0, none⟩) 8 32, .slice a m cp] :=
    rows1 (.one (k1.step ((s2.trans s3).trans s4) (by simp))) (rows1 (.one (k2.step (s3.trans s4) (by simp))) (rows1 (.one (k3.step s4 (by simp))) (rows1 (.one k4) (rows1 (.one (hx0.step (((s1.trans s2).trans s3).trans s4) (by simp))) rfl))))
  have hp := parts_new (t := (1, 3)) rows hr5
  have s5 : Step (fun _ => False) o4 h4 (o4.set r5 (1, 3)) h5 := by rw [hh5]; exact Step.new _ _ hr5
  rw [← hh5] at hp
  have hfl : [numB gen, numB n, numB m, sumB c gen n text, text].flatten = recB c gen n text := by rw [hm]; simp [recB]
  have hsl : sumL [numB gen, numB n, numB m, sumB c gen n text, text] = (recB c gen n text).length := by rw [← flat_len, hfl]
  refine concat_ok (t' := (1, 5)) hp (by rw [hsl, recB_len]; omega) (by simp) ?_
  intro o6 h6 a6 c6 k6 s6
  refine asSl_i ?_
  rw [hfl, hsl] at k6
  rw [hsl]
  have sf : Step Mut ownZ h o6 h6 := (((((s1.trans s2).trans s3).trans s4).trans s5).trans s6).no
  exact H _ _ _ _ (k6.join (f := fun _ => t) sf (by simp)) (sf.join _)
theorem bytes_ok {o : Own} {h : Hp} {c : ShaC} {tx t : Tag} {a : Option Addr} {m cp : Nat} {gen slot : Int} {text : Bytes} {K : Value → Hp → Prop} (hc : ShaAt o h c) (hx : Rc o h tx 1 a m cp (text.map bc)) (hb : text.length ≤ 1073741000)
    (H : ∀ o' h' a' c', Oc o' h' t 1 a' (snapB c gen text).length c' ((snapB c gen text).map bc) → Step (fun _ => False) o h o' h' → K (.slice a' (snapB c gen text).length c') h') : Spec P 42 #[.agg #[.int .i64 gen, .int .i64 slot, .slice a m cp]] h K := by
  have hc0 := hc.own0
  have hx0 := hx.own0
  have hm := len_rc hx
  refine S42 ?_
  unfold V42
  refine nw_to ?_
  intro r0 h0 hr0 hh0
  have s0 : Step (fun _ => False) ownZ h (ownZ.set r0 (1, 6)) h0 := by rw [hh0]; exact Step.new _ _ hr0
  have hb0 : h0 r0 = some (.cells #[.int .i64 gen, .int .i64 slot, .slice a m cp] 86) := by rw [hh0]; exact Hp.set_same _ _ _
  refine ld_i hb0 rfl ?_
  refine ld_l hb0 rfl ?_
  refine ld_i hb0 rfl ?_
  refine ld_l hb0 rfl ?_
  refine ld_l hb0 rfl ?_
  refine ld_l hb0 rfl ?_
  refine number_ok (o := ownZ.set r0 (1, 6)) (t := (0, 0)) ?_
  intro o1 h1 r1 k1 s1
  refine asSl_i ?_
  have q1 := (s1.at hb0 (by simp)).1
  have e1 : rd P (Instr.loadAt 24 (.pointer (some ⟨r0, 2, none⟩))) h1 = rd P (Instr.loadAt 24 (.pointer (some ⟨r0, 2, none⟩))) h0 := rd_same leaf24 hb0 (by simp) q1
  refine ⟨by (repeat' apply And.intro) <;> first | exact e1 | exact rd_same leaf3 hb0 (by simp) q1 | rfl, ?_⟩
  refine number_ok (o := o1) (t := (0, 0)) ?_
  intro o2 h2 r2 k2 s2
  refine asSl_i ?_
  have q2 := (s2.at q1 (by simp)).1
  have e2 : rd P (Instr.loadAt 24 (.pointer (some ⟨r0, 2, none⟩))) h2 = rd P (Instr.loadAt 24 (.pointer (some ⟨r0, 2, none⟩))) h0 := rd_same leaf24 hb0 (by simp) q2
  refine ⟨by (repeat' apply And.intro) <;> first | exact e2 | exact rd_same leaf3 hb0 (by simp) q2 | rfl, ?_⟩
  refine wsum_ok (o := o2) (t := (0, 0)) (hc0.step ((s0.trans s1).trans s2) (by simp)) (hx0.step ((s0.trans s1).trans s2) (by simp)) (by omega) ?_
  intro o4 h4 r4 k4 s4
  refine asSl_i ?_
  have q4 := (s4.at q2 (by simp)).1
  have e4 : rd P (Instr.loadAt 24 (.pointer (some ⟨r0, 2, none⟩))) h4 = rd P (Instr.loadAt 24 (.pointer (some ⟨r0, 2, none⟩))) h0 := rd_same leaf24 hb0 (by simp) q4
  refine ⟨by (repeat' apply And.intro) <;> first | exact e4 | exact rd_same leaf3 hb0 (by simp) q4 | rfl, ?_⟩
  refine nw_to ?_
  intro r5 h5 hr5 hh5
  have rows : RowsOf 1 (PartAt o4 h4) [numB gen, numB m, sumB c gen m text, text] [.slice (some ⟨r1, 0, none⟩) 4 4, .slice (some ⟨r2, 0, none⟩) 4 4, .slice (some ⟨r4, 0, none⟩) 8 32, .slice a m cp] :=
    rows1 (.one (k1.step (s2.trans s4) (by simp))) (rows1 (.one (k2.step s4 (by simp))) (rows1 (.one k4) (rows1 (.one (hx0.step (((s0.trans s1).trans s2).trans s4) (by simp))) rfl)))
  have hp := parts_new (t := (1, 3)) rows hr5
  have s5 : Step (fun _ => False) o4 h4 (o4.set r5 (1, 3)) h5 := by rw [hh5]; exact Step.new _ _ hr5
  rw [← hh5] at hp
  have hfl : [numB gen, numB m, sumB c gen m text, text].flatten = snapB c gen text := by rw [hm]; simp [snapB]
  have hsl : sumL [numB gen, numB m, sumB c gen m text, text] = (snapB c gen text).length := by rw [← flat_len, hfl]
  refine concat_ok (t' := (1, 5)) hp (by rw [hsl, snapB_len]; omega) (by simp) ?_
  intro o6 h6 a6 c6 k6 s6
  refine asSl_i ?_
  rw [hfl, hsl] at k6
  rw [hsl]
  have sf : Step Mut ownZ h o6 h6 := (((((s0.trans s1).trans s2).trans s4).trans s5).trans s6).no
  exact H _ _ _ _ (k6.join (f := fun _ => t) sf (by simp)) (sf.join _)
end Go.Proofs.YtcolhmddhaabnaaDoor
set_option linter.unusedVariables false
set_option maxRecDepth 100000
namespace Go.Proofs.YtcolhmddhaabnaaDoor
open Go.H
theorem bor_add {A b i : Nat} (hb : b < 2 ^ i) (h : 2 ^ i * A + b < 9223372036854775808) : bOr .i64 ((2 ^ i * A : Nat) : Int) ((b : Nat) : Int) = ((2 ^ i * A + b : Nat) : Int) := by
  unfold bOr
  have e : (BitVec.ofInt (IntKind.i64).bits ((2 ^ i * A : Nat) : Int) ||| BitVec.ofInt (IntKind.i64).bits ((b : Nat) : Int)).toNat = 2 ^ i * A + b := by
    have hb64 : (IntKind.i64).bits = 64 := rfl
    rw [hb64, BitVec.ofInt_natCast, BitVec.ofInt_natCast, BitVec.toNat_or, BitVec.toNat_ofNat, BitVec.toNat_ofNat, Nat.mod_eq_of_lt (by omega), Nat.mod_eq_of_lt (by omega)]
    exact (Nat.two_pow_add_eq_or_of_lt hb A).symm
  rw [e, wrap_i64] <;> omega
theorem bAt_lt (l : Bytes) (i : Nat) : 0 ≤ bAt l i ∧ bAt l i < 256 := by
  unfold bAt
  have := (l.getD i 0).toNat_lt
  omega
theorem numAt_val (l : Bytes) (p : Nat) : numAt l p = bAt l p * 16777216 + bAt l (p + 1) * 65536 + bAt l (p + 2) * 256 + bAt l (p + 3) := by
  have h0 := bAt_lt l p
  have h1 := bAt_lt l (p + 1)
  have h2 := bAt_lt l (p + 2)
  have h3 := bAt_lt l (p + 3)
  unfold numAt
  obtain ⟨a, ha⟩ := Int.eq_ofNat_of_zero_le h0.1
  obtain ⟨b, hb⟩ := Int.eq_ofNat_of_zero_le h1.1
  obtain ⟨c, hc⟩ := Int.eq_ofNat_of_zero_le h2.1
  obtain ⟨d, hd⟩ := Int.eq_ofNat_of_zero_le h3.1
  rw [ha] at h0; rw [hb] at h1; rw [hc] at h2; rw [hd] at h3
  rw [ha, hb, hc, hd]
  unfold sShl
  have m24 : min (24 : Int).toNat (IntKind.i64).bits = 24 := rfl
  have m16 : min (16 : Int).toNat (IntKind.i64).bits = 16 := rfl
  have m8 : min (8 : Int).toNat (IntKind.i64).bits = 8 := rfl
  rw [m24, m16, m8]
  rw [wrap_i64 (n := ((a : Nat) : Int)) (by omega) (by omega), wrap_i64 (n := ((b : Nat) : Int)) (by omega) (by omega), wrap_i64 (n := ((c : Nat) : Int)) (by omega) (by omega), wrap_i64 (n := ((d : Nat) : Int)) (by omega) (by omega)]
  rw [wrap_i64 (n := ((a : Nat) : Int) * 2 ^ 24) (by omega) (by omega), wrap_i64 (n := ((b : Nat) : Int) * 2 ^ 16) (by omega) (by omega), wrap_i64 (n := ((c : Nat) : Int) * 2 ^ 8) (by omega) (by omega)]
  have e1 : ((a : Nat) : Int) * 2 ^ 24 = ((2 ^ 24 * a : Nat) : Int) := by omega
  have e2 : ((b : Nat) : Int) * 2 ^ 16 = ((65536 * b : Nat) : Int) := by omega
  have e3 : ((c : Nat) : Int) * 2 ^ 8 = ((256 * c : Nat) : Int) := by omega
  rw [e1, e2, e3]
  rw [bor_add (i := 24) (by omega) (by omega)]
  have f1 : 2 ^ 24 * a + 65536 * b = 2 ^ 16 * (256 * a + b) := by omega
  rw [f1, bor_add (i := 16) (by omega) (by omega)]
  have f2 : 2 ^ 16 * (256 * a + b) + 256 * c = 2 ^ 8 * (65536 * a + 256 * b + c) := by omega
  rw [f2, bor_add (i := 8) (by omega) (by omega)]
  omega
theorem numAt_range (l : Bytes) (p : Nat) : 0 ≤ numAt l p ∧ numAt l p < 4294967296 := by
  rw [numAt_val]
  have h0 := bAt_lt l p
  have h1 := bAt_lt l (p + 1)
  have h2 := bAt_lt l (p + 2)
  have h3 := bAt_lt l (p + 3)
  omega
/-! ### next, good -/
def nextF (c : ShaC) (b : Bytes) (gen n : Int) : Option Bytes :=
  if b.length < 20 ∨ numAt b 0 ≠ gen ∨ numAt b 4 ≠ n then none
  else if numAt b 8 > 16384 ∨ numAt b 8 > (b.length : Int) - 20 then none
  else if sumB c gen n ((b.drop 20).take (numAt b 8).toNat) == (b.drop 12).take 8 then some ((b.drop 20).take (numAt b 8).toNat) else none
theorem cut_rc {o : Own} {h : Hp} {t : Tag} {a : Option Addr} {n c : Nat} {l : Bytes} (H : Rc o h t 1 a n c (l.map bc)) {x y : Nat} (h1 : x ≤ y) (h2 : y ≤ l.length) : Rc o h t 1 (cutA a x 1 c) (y - x) (c - x) (((l.drop x).take (y - x)).map bc) := by
  have hn := len_rc H
  have := H.cut (l := x) (m := y) h1 (by omega)
  simpa [List.map_take, List.map_drop] using this
theorem next_ok {o : Own} {h : Hp} {c : ShaC} {t : Tag} {a : Option Addr} {m cp : Nat} {gen n : Int} {b : Bytes} {K : Value → Hp → Prop} (hc : ShaAt o h c) (hx : Rc o h t 1 a m cp (b.map bc)) (hb : b.length ≤ 1073741000)
    (H1 : nextF c b gen n = none → ∀ o' h' a' m' c', Step (fun _ => False) o h o' h' → K (.tuple #[.slice a' m' c', .bool false]) h')
    (H2 : ∀ text, nextF c b gen n = some text → ∀ o' h' a' c', Rc o' h' t 1 a' text.length c' (text.map bc) → Step (fun _ => False) o h o' h' → K (.tuple #[.slice a' text.length c', .bool true]) h') :
    Spec P 60 #[.slice a m cp, .int .i64 gen, .int .i64 n] h K := by
  have hm := len_rc hx
  have hcp := hx.2.1
  unfold nextF at H1 H2
  refine S60 ?_
  unfold V60
  refine bIf_dec (fun hlt => ?_) (fun hge => ?_)
  · unfold V60_s6
    refine bIf_t rfl ?_
    rw [if_pos (.inl (by omega))] at H1
    exact H1 rfl _ _ _ _ _ (.refl _ _ _)
  refine numbered_ok (p := 0) hx (by omega) (by omega) ?_
  refine asIn_i ?_
  refine bIf_ite (fun hg => ?_) (fun hg => ?_)
  · unfold V60_s6
    refine bIf_t rfl ?_
    rw [if_pos (.inr (.inl (bne_iff_ne.1 hg)))] at H1
    exact H1 rfl _ _ _ _ _ (.refl _ _ _)
  simp only [bne_eq_false_iff_eq] at hg
  refine numbered_ok (p := 4) hx (by omega) (by omega) ?_
  refine asIn_i ?_
  unfold V60_s6
  refine bIf_ite (fun hn => ?_) (fun hn => ?_)
  · rw [if_pos (.inr (.inr (bne_iff_ne.1 hn)))] at H1
    exact H1 rfl _ _ _ _ _ (.refl _ _ _)
  simp only [bne_eq_false_iff_eq] at hn
  rw [if_neg (by intro hh; rcases hh with hh | hh | hh; omega; exact hh hg; exact hh hn)] at H1 H2
  unfold V60_s3
  refine numbered_ok (p := 8) hx (by omega) (by omega) ?_
  refine asIn_i ?_
  have hr := numAt_range b 8
  generalize numAt b 8 = L at *
  refine bIf_dec (fun hlt => ?_) (fun hge2 => ?_)
  · unfold V60_s30
    refine bIf_t rfl ?_
    rw [if_pos (.inl hlt)] at H1
    exact H1 rfl _ _ _ _ _ (.refl _ _ _)
  unfold V60_s30
  have w : IntKind.i64.wrap (((m : Nat) : Int) - 20) = (b.length : Int) - 20 := by rw [wrap_i64] <;> omega
  rw [w]
  refine bIf_dec (fun hlt => ?_) (fun hge3 => ?_)
  · rw [if_pos (.inr hlt)] at H1
    exact H1 rfl _ _ _ _ _ (.refl _ _ _)
  rw [if_neg (by omega)] at H1 H2
  unfold V60_s15
  obtain ⟨k, rfl⟩ := Int.eq_ofNat_of_zero_le hr.1
  have w2 : IntKind.i64.wrap (20 + ((k : Nat) : Int)) = ((20 + k : Nat) : Int) := by rw [wrap_i64] <;> omega
  rw [w2]
  refine sl_lohi elem24 (by omega) (by omega) (by omega) ?_
  refine sl_lohi elem24 (by omega) (by omega) (by omega) ?_
  have r1 := cut_rc hx (x := 20) (y := 20 + k) (by omega) (by omega)
  have r2 := cut_rc hx (x := 12) (y := 20) (by omega) (by omega)
  simp only [Nat.add_sub_cancel_left] at r1
  have t20 : (20 : Int).toNat = 20 := rfl
  have t12 : (12 : Int).toNat = 12 := rfl
  simp only [t20, t12, Int.toNat_natCast, Nat.add_sub_cancel_left] at *
  have hl1 : ((b.drop 20).take k).length = k := by simp; omega
  refine wsum_ok (o := o) (t := (0, 0)) hc r1 (by omega) ?_
  intro o2 h2 r k2 s2
  refine asSl_i ?_
  refine equal_ok k2 (r2.step s2 (by simp)) (by simp [sumB_len]) ?_
  refine asBo_i ?_
  cases he : (sumB c gen n ((b.drop 20).take k) == (b.drop 12).take 8) with
  | true =>
    have he2 : (sumB c gen n ((b.drop 20).take k) == (b.drop 12).take (20 - 12)) = true := he
    rw [if_pos he] at H2
    try rw [he2]
    have := H2 _ rfl o2 h2 (cutA a 20 1 cp) (cp - 20)
    rw [hl1] at this
    exact this (r1.step s2 (by simp)) s2
  | false =>
    have he2 : (sumB c gen n ((b.drop 20).take k) == (b.drop 12).take (20 - 12)) = false := he
    rw [if_neg (by rw [he]; simp)] at H1
    try rw [he2]
    exact H1 rfl _ _ _ _ _ s2
def goodF (c : ShaC) (b : Bytes) : Option (Int × Bytes) :=
  if b.length < 16 then none
  else if numAt b 0 < 1 ∨ numAt b 0 > 2147483647 ∨ numAt b 4 > (b.length : Int) - 16 then none
  else if sumB c (numAt b 0) (numAt b 4) ((b.drop 16).take (numAt b 4).toNat) == (b.drop 8).take 8 then some (numAt b 0, (b.drop 16).take (numAt b 4).toNat) else none
theorem agg86 : aggOk P 86 3 = true := by kernel_rfl
theorem good_ok {o : Own} {h : Hp} {c : ShaC} {t t' : Tag} {a : Option Addr} {m cp : Nat} {slot : Int} {b : Bytes} {K : Value → Hp → Prop} (hc : ShaAt o h c) (hx : Rc o h t 1 a m cp (b.map bc)) (hb : b.length ≤ 1073741000)
    (H1 : goodF c b = none → ∀ o' h' g s a' m' c', Step (fun _ => False) o h o' h' → K (.tuple #[.agg #[.int .i64 g, .int .i64 s, .slice a' m' c'], .bool false]) h')
    (H2 : ∀ g text, goodF c b = some (g, text) → ∀ o' h' a' c', Rc o' h' t' 1 a' text.length c' (text.map bc) → Step (fun _ => False) o h o' h' → K (.tuple #[.agg #[.int .i64 g, .int .i64 slot, .slice a' text.length c'], .bool true]) h') :
    Spec P 59 #[.int .i64 slot, .slice a m cp] h K := by
  have hm := len_rc hx
  have hcp := hx.2.1
  unfold goodF at H1 H2
  have hc0 := hc.own0
  have hx0 := hx.own0
  refine S59 ?_
  unfold V59
  refine nw_to ?_
  intro r1 h1 hr1 hh1
  have s1 : Step (fun _ => False) ownZ h (ownZ.set r1 (1, 7)) h1 := by rw [hh1]; exact Step.new _ _ hr1
  have hb1 : h1 r1 = some (.cells #[.int .i64 0, .int .i64 0, .slice none 0 0] 86) := by rw [hh1]; exact Hp.set_same _ _ _
  have hx1 := hx0.step s1 (by simp)
  refine bIf_dec (fun hlt => ?_) (fun hge => ?_)
  · rw [if_pos (by omega)] at H1
    refine st_v hb1 (Loose.zero _) rfl (by simp) ?_
    iterate 2 refine st_v (Hp.set_same _ _ _) (Loose.zero _) rfl (by simp) ?_
    simp only [Hp.set_set]
    refine ld_i (Hp.set_same _ _ _) rfl ?_
    refine ld_i (Hp.set_same _ _ _) rfl ?_
    refine ld_l (Hp.set_same _ _ _) rfl ?_
    exact H1 rfl _ _ _ _ _ _ _ ((s1.putNew _ hr1).no.join (o := o) (fun t => t))
  rw [if_neg (by omega)] at H1 H2
  refine numbered_ok (p := 0) hx1 (by omega) (by omega) ?_
  refine asIn_i ?_
  refine numbered_ok (p := 4) hx1 (by omega) (by omega) ?_
  refine asIn_i ?_
  have hr := numAt_range b 0
  have hr4 := numAt_range b 4
  generalize numAt b 0 = gen at *
  generalize numAt b 4 = L at *
  have bad : (gen < 1 ∨ gen > 2147483647 ∨ L > (b.length : Int) - 16) → V59_s30 K slot a m cp ⟨r1, 0, none⟩ gen L true h1 := by
    intro hbad
    rw [if_pos hbad] at H1
    unfold V59_s30
    refine bIf_t rfl ?_
    refine st_v hb1 (Loose.zero _) rfl (by simp) ?_
    iterate 2 refine st_v (Hp.set_same _ _ _) (Loose.zero _) rfl (by simp) ?_
    simp only [Hp.set_set]
    refine ld_i (Hp.set_same _ _ _) rfl ?_
    refine ld_i (Hp.set_same _ _ _) rfl ?_
    refine ld_l (Hp.set_same _ _ _) rfl ?_
    exact H1 rfl _ _ _ _ _ _ _ ((s1.putNew _ hr1).no.join (o := o) (fun t => t))
  refine bIf_dec (fun hlt => bad (.inl hlt)) (fun hg1 => ?_)
  refine bIf_dec (fun hlt => bad (.inr (.inl hlt))) (fun hg2 => ?_)
  have w : IntKind.i64.wrap (((m : Nat) : Int) - 16) = (b.length : Int) - 16 := by rw [wrap_i64] <;> omega
  rw [w]
  by_cases hbad : L > (b.length : Int) - 16
  · rw [decide_eq_true hbad]
    exact bad (.inr (.inr hbad))
  rw [decide_eq_false hbad]
  clear bad
  rw [if_neg (by omega)] at H1 H2
  unfold V59_s30
  refine bIf_f rfl ?_
  unfold V59_s15
  obtain ⟨k, rfl⟩ := Int.eq_ofNat_of_zero_le hr4.1
  have w2 : IntKind.i64.wrap (16 + ((k : Nat) : Int)) = ((16 + k : Nat) : Int) := by rw [wrap_i64] <;> omega
  rw [w2]
  have q1 := cut_rc hx1 (x := 16) (y := 16 + k) (by omega) (by omega)
  have q2 := cut_rc hx1 (x := 8) (y := 16) (by omega) (by omega)
  simp only [Nat.add_sub_cancel_left] at q1
  refine sl_lohi elem24 (by omega) (by omega) (by omega) ?_
  have t16 : (16 : Int).toNat = 16 := rfl
  have t8 : (8 : Int).toNat = 8 := rfl
  simp only [t16, Int.toNat_natCast, Nat.add_sub_cancel_left] at H1 H2 ⊢
  have hl1 : ((b.drop 16).take k).length = k := by simp; omega
  refine clone_ok (t := (1, 8)) q1 (by omega) ?_
  intro o2 h2 a2 c2 k2 s2
  refine asSl_i ?_
  refine nw_to ?_
  intro r3 h3 hr3 hh3
  subst hh3
  iterate 3 refine st_v (Hp.set_same _ _ _) (Loose.zero _) rfl (by simp) ?_
  simp only [Hp.set_set]
  have s3 : Step (fun _ => False) o2 h2 (o2.set r3 (1, 7)) (h2.set r3 (.cells #[.int .i64 gen, .int .i64 slot, .slice a2 k c2] 86)) := Step.new _ _ hr3
  have hb3 : (h2.set r3 (.cells #[.int .i64 gen, .int .i64 slot, .slice a2 k c2] 86)) r3 = some (.cells #[.int .i64 gen, .int .i64 slot, .slice a2 k c2] 86) := Hp.set_same _ _ _
  generalize hg : Hp.set h2 r3 _ = h4
  have hg2 : h4 = h2.set r3 (.cells #[.int .i64 gen, .int .i64 slot, .slice a2 k c2] 86) := hg.symm.trans (congrArg (fun C => h2.set r3 (.cells C 86)) (by kernel_rfl))
  rw [← hg2] at s3 hb3
  refine ld_i hb3 rfl ?_
  refine ld_i hb3 rfl ?_
  refine ld_l hb3 rfl ?_
  refine ld_l hb3 rfl ?_
  refine sl_lohi elem24 (by omega) (by omega) (by omega) ?_
  simp only [t16, t8]
  refine wsum_ok (o := o2.set r3 (1, 7)) (t := (0, 0)) (hc0.step ((s1.trans s2).trans s3) (by simp)) (k2.read.step s3 (by simp)) (by omega) ?_
  intro o5 h5 r5 k5 s5
  refine asSl_i ?_
  have hb5 := (s5.at hb3 (by simp)).1
  have c3 : CellsAt #[Value.int .i64 gen, .int .i64 slot, .slice a2 k c2] 0 [.int .i64 gen, .int .i64 slot, .slice a2 k c2] := by
    intro i v hi
    rw [Nat.zero_add]; simpa using hi
  refine ⟨by rw [rd_ldAgg agg86 hb3 c3 rfl, rd_ldAgg agg86 hb5 c3 rfl], ?_⟩
  refine equal_ok k5 (q2.step ((s2.trans s3).trans s5) (by simp)) (by simp [sumB_len]) ?_
  refine asBo_i ?_
  refine ⟨by rw [rd_ldAgg agg86 hb3 c3 rfl, rd_ldAgg agg86 hb5 c3 rfl], ?_⟩
  have hb5' := (((s2.trans s3).trans s5).at hb1 (by simp)).1
  refine st_v hb5' (Loose.zero _) rfl (by simp) ?_
  iterate 2 refine st_v (Hp.set_same _ _ _) (Loose.zero _) rfl (by simp) ?_
  simp only [Hp.set_set]
  refine ld_i (Hp.set_same _ _ _) rfl ?_
  refine ld_i (Hp.set_same _ _ _) rfl ?_
  refine ld_l (Hp.set_same _ _ _) rfl ?_
  have sf := ((s1.trans s2).trans s3).trans s5
  cases he : (sumB c gen k ((b.drop 16).take k) == (b.drop 8).take 8) with
  | true =>
    have he2 : (sumB c gen k ((b.drop 16).take k) == (b.drop 8).take (16 - 8)) = true := he
    rw [if_pos he] at H2
    try rw [he2]
    have or1 : o5 r1 = (1, 7) := ((((s2.trans s3).trans s5).at hb1 (by simp)).2).trans (Own.set_same _ _ _)
    have sp : ∀ X, Step (fun t => t = (1, 7)) o5 h5 o5 (h5.set r1 X) := fun X => Step.put X or1
    have k7 := fun X => (k2.read.step (s3.trans s5) (by simp)).step (sp X) (by simp)
    have sX := fun X => (sf.no (S := Mut)).trans ((sp X).mono (by rintro _ rfl; unfold Mut; simp))
    have := fun X => H2 gen _ rfl (o.join h o5 fun _ => t') (h5.set r1 X) a2 c2
    simp only [hl1] at this
    exact this _ ((k7 _).join (f := fun _ => t') (sX _) (by simp)) ((sX _).join _)
  | false =>
    have he2 : (sumB c gen k ((b.drop 16).take k) == (b.drop 8).take (16 - 8)) = false := he
    rw [if_neg (by rw [he]; simp)] at H1
    try rw [he2]
    exact H1 rfl _ _ _ _ _ _ _ ((sf.putNew _ hr1).no.join (o := o) (fun t => t))
end Go.Proofs.YtcolhmddhaabnaaDoor
set_option linter.unusedVariables false
set_option maxRecDepth 100000
namespace Go.Proofs.YtcolhmddhaabnaaDoor
open Go.H
/-! ### A log, as data -/
def lenR (l : List Bytes) : Nat := (l.map fun t => 20 + t.length).sum
theorem lenR_snoc (l : List Bytes) (t : Bytes) : lenR (l ++ [t]) = lenR l + (20 + t.length) := by simp [lenR]
theorem lenR_ge (l : List Bytes) : 20 * l.length ≤ lenR l := by
  induction l with
  | nil => simp
  | cons t l ih => simp [lenR] at *; omega
structure LS where
  gen : Int
  slot : Int
  text : Bytes
  recs : List Bytes
  fin : Nat
  dead : Bool
structure LS.Ok (L : LS) : Prop where
  text : L.text.length ≤ 1048576
  sum : L.fin = lenR L.recs
  fin : L.fin ≤ 1048576
  gen : 0 ≤ L.gen ∧ L.gen ≤ 2147483647
  slot : L.slot = 0 ∨ L.slot = 1
  each : ∀ r ∈ L.recs, r.length ≤ 16384
theorem LS.Ok.recs {L : LS} (h : L.Ok) : 20 * L.recs.length ≤ 1048576 := by have h1 := h.sum; have h2 := h.fin; have h3 := lenR_ge L.recs; omega
def RecsAt (o : Own) (h : Hp) (τ : Nat) (a : Option Addr) (n c : Nat) (l : List Bytes) : Prop := ∃ xs, Oc o h (τ, 1) 1 a n c xs ∧ RowsOf 1 (PartAt o h) l xs
structure LogC (o : Own) (h : Hp) (τ d : Nat) (cs : Array Value) (L : LS) : Prop where
  size : cs.size = 7
  disk : cs[0]? = some (.pointer (some ⟨d, 0, none⟩))
  gen : cs[1]? = some (.int .i64 L.gen)
  slot : cs[2]? = some (.int .i64 L.slot)
  text : ∃ a n c, cs[3]? = some (.slice a n c) ∧ Rc o h (0, 0) 1 a n c (L.text.map bc)
  recs : ∃ a n c, cs[4]? = some (.slice a n c) ∧ RecsAt o h τ a n c L.recs
  fin : cs[5]? = some (.int .i64 (L.fin : Int))
  dead : cs[6]? = some (.bool L.dead)
  ok : L.Ok
def LogAt (o : Own) (h : Hp) (τ d x : Nat) (L : LS) : Prop := ∃ cs E, h x = some (.cells cs E) ∧ o x = (τ, 0) ∧ LogC o h τ d cs L
theorem PartAt.step {S : Tag → Prop} {o o' : Own} {h h' : Hp} {p : Bytes} {cl : List Value} (H : PartAt o h p cl) (s : Step S o h o' h') (h0 : ¬ S (0, 0)) : PartAt o' h' p cl := by
  obtain ⟨a, m, c, e, g⟩ := H
  exact ⟨a, m, c, e, g.step s h0⟩
theorem RecsAt.step {S : Tag → Prop} {o o' : Own} {h h' : Hp} {τ : Nat} {a : Option Addr} {n c : Nat} {l : List Bytes} (H : RecsAt o h τ a n c l) (s : Step S o h o' h') (h0 : ¬ S (0, 0)) (h1 : ¬ S (τ, 1)) : RecsAt o' h' τ a n c l := by
  obtain ⟨xs, g1, g2⟩ := H
  exact ⟨xs, g1.step s h1, g2.mono fun x cl _ hx => hx.step s h0⟩
theorem LogC.step {S : Tag → Prop} {o o' : Own} {h h' : Hp} {τ d : Nat} {cs : Array Value} {L : LS} (H : LogC o h τ d cs L) (s : Step S o h o' h') (h0 : ¬ S (0, 0)) (h1 : ¬ S (τ, 1)) : LogC o' h' τ d cs L := by
  obtain ⟨a, n, c, e1, e2⟩ := H.text
  obtain ⟨a', n', c', f1, f2⟩ := H.recs
  exact ⟨H.size, H.disk, H.gen, H.slot, ⟨a, n, c, e1, e2.step s h0⟩, ⟨a', n', c', f1, f2.step s h0 h1⟩, H.fin, H.dead, H.ok⟩
theorem LogAt.step {S : Tag → Prop} {o o' : Own} {h h' : Hp} {τ d x : Nat} {L : LS} (H : LogAt o h τ d x L) (s : Step S o h o' h') (h0 : ¬ S (0, 0)) (hτ : ∀ k, ¬ S (τ, k)) : LogAt o' h' τ d x L := by
  obtain ⟨cs, E, b1, b2, b3⟩ := H
  obtain ⟨f1, f2⟩ := s.at b1 (by rw [b2]; exact hτ 0)
  exact ⟨cs, E, f1, f2.trans b2, b3.step s h0 (hτ 1)⟩
/-- What the log's functions read beside the log. -/
structure WEnv (o : Own) (h : Hp) (e : Errs) (lg : Value) (c : ShaC) : Prop where
  errs : ErrsAt o h e
  long : ErrAt o h 4 lg
  sha : ShaAt o h c
theorem WEnv.step {S : Tag → Prop} {o o' : Own} {h h' : Hp} {e : Errs} {lg : Value} {c : ShaC} (H : WEnv o h e lg c) (s : Step S o h o' h') (h0 : ¬ S (0, 0)) : WEnv o' h' e lg c :=
  ⟨H.errs.step s h0, H.long.step s h0, H.sha.step s h0⟩
theorem nl_val {o : Own} {h : Hp} {e : Errs} {r : Nat} {K : Bool → Prop} (he : ErrsAt o h e) (hk : K (decide (r ≠ 0))) : nlW P 31 true (e.val r) fun v => asBo v K := by
  match r with
  | 0 => exact nl_nil hk
  | 1 => exact nl_err he.1 hk
  | 2 => exact nl_err he.2.1 hk
  | r + 3 => exact nl_err he.2.2 hk
/-! ### load -/
theorem nextF_some {c : ShaC} {b : Bytes} {gen n : Int} {t : Bytes} (h : nextF c b gen n = some t) : 20 + t.length ≤ b.length ∧ t.length ≤ 16384 := by
  unfold nextF at h
  split at h
  · cases h
  · split at h
    · cases h
    · split at h
      · cases h
        have := numAt_range b 8
        simp
        omega
      · cases h
def recsL (c : ShaC) (gen : Int) (b : Bytes) (n : Nat) : List Bytes :=
  match h : nextF c b gen (n : Int) with
  | none => []
  | some t => t :: recsL c gen (b.drop (20 + t.length)) (n + 1)
termination_by b.length
decreasing_by
  have := nextF_some h
  simp
  omega
theorem recsL_none {c : ShaC} {gen : Int} {b : Bytes} {n : Nat} (h : nextF c b gen (n : Int) = none) : recsL c gen b n = [] := by
  rw [recsL]; split
  · rfl
  · rename_i t ht; rw [h] at ht; cases ht
theorem recsL_some {c : ShaC} {gen : Int} {b t : Bytes} {n : Nat} (h : nextF c b gen (n : Int) = some t) : recsL c gen b n = t :: recsL c gen (b.drop (20 + t.length)) (n + 1) := by
  rw [recsL]; split
  · rename_i ht; rw [h] at ht; cases ht
  · rename_i t' ht; rw [h] at ht; cases ht; rfl
def L0 : LS := ⟨0, 1, [], [], 0, false⟩
def pickS (c : ShaC) (L : LS) (slot : Int) (b : Bytes) : LS :=
  match goodF c b with
  | some (g, t) => if g > L.gen then { L with gen := g, slot := slot, text := t } else L
  | none => L
def picks (c : ShaC) (D : DS) : Nat → LS
  | 0 => L0
  | n + 1 => pickS c (picks c D n) n (D.seen n)
def loadL (c : ShaC) (D : DS) : LS :=
  { picks c D 2 with recs := recsL c (picks c D 2).gen (D.seen 2) 0, fin := lenR (recsL c (picks c D 2).gen (D.seen 2) 0) }
theorem goodF_some {c : ShaC} {b : Bytes} {g : Int} {t : Bytes} (h : goodF c b = some (g, t)) : 1 ≤ g ∧ g ≤ 2147483647 ∧ 16 + t.length ≤ b.length := by
  unfold goodF at h
  split at h
  · cases h
  · split at h
    · cases h
    · split at h
      · cases h
        have := numAt_range b 4
        simp
        omega
      · cases h
theorem L0_ok : L0.Ok := ⟨by simp [L0], rfl, by simp [L0], by simp [L0], by simp [L0], by simp [L0]⟩
theorem picks_rest (c : ShaC) (D : DS) : ∀ n, (picks c D n).recs = [] ∧ (picks c D n).fin = 0 ∧ (picks c D n).dead = false
  | 0 => ⟨rfl, rfl, rfl⟩
  | n + 1 => by
    have ih := picks_rest c D n
    simp only [picks, pickS]
    split
    · split
      · exact ih
      · exact ih
    · exact ih
theorem pickS_ok {c : ShaC} {L : LS} {slot : Int} {b : Bytes} (hL : L.Ok) (hb : b.length ≤ 1048576) (hs : slot = 0 ∨ slot = 1) : (pickS c L slot b).Ok := by
  unfold pickS
  split
  · rename_i g t hg
    have := goodF_some hg
    split
    · exact ⟨by simp only; omega, hL.sum, hL.fin, ⟨by simp only; omega, by simp only; omega⟩, hs, hL.each⟩
    · exact hL
  · exact hL
end Go.Proofs.YtcolhmddhaabnaaDoor
set_option linter.unusedVariables false
set_option maxRecDepth 100000
namespace Go.Proofs.YtcolhmddhaabnaaDoor
open Go.H
theorem leaf44 : leafOk P 44 = true := by kernel_rfl
theorem drop_rc {o : Own} {h : Hp} {t : Tag} {a : Option Addr} {n c : Nat} {l : Bytes} (H : Rc o h t 1 a n c (l.map bc)) {x : Nat} (h2 : x ≤ l.length) : Rc o h t 1 (cutA a x 1 c) (n - x) (c - x) ((l.drop x).map bc) := by
  have hn := len_rc H
  have := cut_rc H (x := x) (y := l.length) h2 (Nat.le_refl _)
  rw [List.take_of_length_le (by simp)] at this
  rw [hn]; exact this
/-- A snapshot is put into a log. -/
theorem LogC.snap {o : Own} {h : Hp} {τ d : Nat} {cs cs' : Array Value} {L : LS} {g s : Int} {t : Bytes} {a : Option Addr} {n c : Nat} (H : LogC o h τ d cs L) (hsz : cs'.size = 7) (h1 : cs'[1]? = some (.int .i64 g)) (h2 : cs'[2]? = some (.int .i64 s)) (h3 : cs'[3]? = some (.slice a n c))
    (hr : ∀ j, (j = 0 ∨ j = 4 ∨ j = 5 ∨ j = 6) → cs'[j]? = cs[j]?) (ht : Rc o h (0, 0) 1 a n c (t.map bc)) (hok : LS.Ok { L with gen := g, slot := s, text := t }) : LogC o h τ d cs' { L with gen := g, slot := s, text := t } := by
  obtain ⟨a', n', c', f1, f2⟩ := H.recs
  exact ⟨hsz, (hr 0 (by simp)).trans H.disk, h1, h2, ⟨a, n, c, h3, ht⟩, ⟨a', n', c', (hr 4 (by simp)).trans f1, f2⟩, (hr 5 (by simp)).trans H.fin, (hr 6 (by simp)).trans H.dead, hok⟩
def LdI (o : Own) (h : Hp) (c : ShaC) (τ d x : Nat) (D : DS) (ns : List Nat) (y0 : Addr) (y16 : Int) (hh : Hp) : Prop :=
  ∃ (i : Nat) (o' : Own), ns = [2 - i] ∧ i ≤ 2 ∧ y0 = ⟨x, 0, none⟩ ∧ y16 = i ∧ LogAt o' hh τ d x (picks c D i) ∧ Step (Of τ) o h o' hh
def LdJ (o : Own) (h : Hp) (c : ShaC) (τ d x : Nat) (D : DS) (ns : List Nat) (y0 : Addr) (y8 : Option Addr) (y8n y8c : Nat) (hh : Hp) : Prop :=
  ∃ (o' : Own) (pre : List Bytes), ns = [(D.seen 2).length - lenR pre] ∧ y0 = ⟨x, 0, none⟩ ∧ lenR pre ≤ (D.seen 2).length ∧ D.gone = false ∧ Rc o' hh (1, 9) 1 y8 y8n y8c ((D.seen 2).map bc) ∧
    LogAt o' hh τ d x { picks c D 2 with recs := pre, fin := lenR pre } ∧ pre ++ recsL c (picks c D 2).gen ((D.seen 2).drop (lenR pre)) pre.length = recsL c (picks c D 2).gen (D.seen 2) 0 ∧ Step (Of τ) o h o' hh
theorem load_ok {o : Own} {h : Hp} {c : ShaC} {e : Errs} {lg : Value} {τ τd d x : Nat} {D : DS} {s0 : Int} {K : Value → Hp → Prop} (hw : WEnv o h e lg c) (hd : DiskAt o h τd d D) (hx : ∃ L, LogAt o h τ d x L ∧ L.gen = 0 ∧ L.text = [] ∧ L.recs = [] ∧ L.fin = 0 ∧ L.dead = false) (hτ : 2 ≤ τ) (hτd : 2 ≤ τd) (hne : τ ≠ τd)
    (H1 : D.gone = true → ∀ o' h', Step (Of τ) o h o' h' → K e.down h')
    (H2 : D.gone = false → ∀ o' h', LogAt o' h' τ d x (loadL c D) → Step (Of τ) o h o' h' → K .nilIface h') :
    Spec P 41 #[.pointer (some ⟨x, 0, none⟩)] h K := by
  have hDok := hd.ok
  have n00 : ¬ Of τ (0, 0) := by unfold Of; simp; omega
  have nd : ∀ k, ¬ Of τ (τd, k) := by intro k; unfold Of; simp; omega
  refine S41 (LdI o h c τ d x D) (LdJ o h c τ d x D) ?_ ?_ ?_
  · rintro n y0 y16 hh ⟨i, o', hns, hi, rfl, rfl, hx1, st0⟩
    obtain rfl : n = 2 - i := by simpa using hns
    have hw' := hw.step st0 n00
    have hd' := hd.step st0 n00 nd
    obtain ⟨cs, E, b1, b2, b3⟩ := id hx1
    unfold V41_58
    refine bIf_dec (fun hlt => ?_) (fun hge => ?_)
    · have hi2 : i < 2 := by omega
      refine ld_p b1 b3.disk ?_
      refine read_ok (t := (0, 0)) hd' hw'.errs (fun hb => absurd ⟨by omega, by omega⟩ hb) ?_ ?_
      · intro _ hg
        refine asTu_i (xs := [_, _]) ?_
        refine unc_i ?_
        refine asSl_i ?_
        refine unc_i ?_
        refine nilL_i ?_
        refine nl_err hw'.errs.2.2 ?_
        refine bIf_t rfl ?_
        exact H1 hg _ _ st0
      · intro _ hg o2 h2 a2 c2 k2 s2
        refine asTu_i (xs := [_, _]) ?_
        refine unc_i ?_
        refine asSl_i ?_
        refine unc_i ?_
        refine nilL_i ?_
        refine nl_nil ?_
        refine bIf_f rfl ?_
        rw [Int.toNat_natCast] at k2 ⊢
        have hbl := hDok.seens i (by omega)
        -- without a better snapshot
        have same : ∀ (o3 : Own) (h3 : Hp), Step (fun _ => False) o2 h2 o3 h3 → picks c D (i + 1) = picks c D i →
            ∃ m, m < 2 - i ∧ LdI o h c τ d x D [m] ⟨x, 0, none⟩ (IntKind.i64.wrap ((i : Int) + 1)) h3 := by
          intro o3 h3 s3 he
          refine ⟨2 - (i + 1), by omega, i + 1, o3, rfl, by omega, rfl, ?_, ?_, st0.trans (s2.trans s3).no⟩
          · rw [wrap_i64] <;> omega
          · rw [he]; exact hx1.step (s2.trans s3) (by simp) (by simp)
        have hpk : picks c D (i + 1) = pickS c (picks c D i) i (D.seen i) := rfl
        refine good_ok (t' := (0, 0)) (hw'.sha.step s2 (by simp)) k2.read (by omega) ?_ ?_
        · intro hgd o3 h3 g s a' m' c' s3
          refine asTu_i (xs := [_, _]) ?_
          refine unc_i ?_
          refine asAg_i (xs := [_, _, _]) ?_
          refine unc_i ?_
          refine asIn_i ?_
          refine unc_i ?_
          refine asIn_i ?_
          refine unc_i ?_
          refine asSl_i ?_
          refine nilL_i ?_
          refine unc_i ?_
          refine asBo_i ?_
          refine nilL_i ?_
          refine nw_to ?_
          intro r h4 hr hh4
          subst hh4
          iterate 3 refine st_v (Hp.set_same _ _ _) (Loose.zero _) rfl (by simp) ?_
          simp only [Hp.set_set]
          refine bIf_f rfl ?_
          unfold V41_s29903
          refine bIf_f rfl ?_
          refine same _ _ (s3.trans (Step.new _ (1, 0) hr)) ?_
          rw [hpk]; unfold pickS; rw [hgd]
        · intro g t hgd o3 h3 a' c' k3 s3
          have hgs := goodF_some hgd
          refine asTu_i (xs := [_, _]) ?_
          refine unc_i ?_
          refine asAg_i (xs := [_, _, _]) ?_
          refine unc_i ?_
          refine asIn_i ?_
          refine unc_i ?_
          refine asIn_i ?_
          refine unc_i ?_
          refine asSl_i ?_
          refine nilL_i ?_
          refine unc_i ?_
          refine asBo_i ?_
          refine nilL_i ?_
          refine nw_to ?_
          intro r h4 hr hh4
          subst hh4
          iterate 3 refine st_v (Hp.set_same _ _ _) (Loose.zero _) rfl (by simp) ?_
          simp only [Hp.set_set]
          have s4 : Step (fun _ => False) o3 h3 (o3.set r (1, 0)) (h3.set r (.cells #[.int .i64 g, .int .i64 (i : Int), .slice a' t.length c'] 86)) := Step.new _ _ hr
          generalize hg4 : Hp.set h3 r _ = h4
          have hg2 : h4 = h3.set r (.cells #[.int .i64 g, .int .i64 (i : Int), .slice a' t.length c'] 86) := hg4.symm.trans (congrArg (fun C => h3.set r (.cells C 86)) (by kernel_rfl))
          have hb4 : h4 r = some (.cells #[.int .i64 g, .int .i64 (i : Int), .slice a' t.length c'] 86) := by rw [hg2]; exact Hp.set_same _ _ _
          rw [← hg2] at s4
          obtain ⟨f1, f2⟩ := ((s2.trans s3).trans s4).at b1 (by simp)
          have b4 := b3.step ((s2.trans s3).trans s4) (by simp) (by simp)
          refine bIf_t rfl ?_
          refine ld_i hb4 rfl ?_
          refine ld_i f1 (by rw [Nat.zero_add]; exact b3.gen) ?_
          unfold V41_s29903
          refine bIf_dec (fun hgt => ?_) (fun hle => ?_)
          · refine ld_i hb4 rfl ?_
            refine ld_i hb4 rfl ?_
            refine ld_l hb4 rfl ?_
            refine st_v f1 (Loose.zero _) rfl (by rw [b3.size]; show 0 + 1 < 7; omega) ?_
            refine st_v (Hp.set_same _ _ _) (Loose.zero _) rfl (by simp; rw [b3.size]; show 0 + 2 < 7; omega) ?_
            refine st_v (Hp.set_same _ _ _) (Loose.zero _) rfl (by simp; rw [b3.size]; show 0 + 3 < 7; omega) ?_
            simp only [Hp.set_set, Nat.zero_add]
            have ox : (o3.set r (1, 0)) x = (τ, 0) := f2.trans b2
            have sp : Step (fun t => t = (τ, 0)) (o3.set r (1, 0)) h4 (o3.set r (1, 0)) (h4.set x (.cells (((cs.setIfInBounds 1 (.int .i64 g)).setIfInBounds 2 (.int .i64 i)).setIfInBounds 3 (.slice a' t.length c')) E)) := Step.put _ ox
            have b5 := b4.step sp (by simp <;> omega) (by simp)
            refine ⟨2 - (i + 1), by omega, i + 1, o3.set r (1, 0), rfl, by omega, rfl, ?_, ?_, (st0.trans ((s2.trans s3).trans s4).no).trans (sp.mono (by rintro _ rfl; rfl))⟩
            · rw [wrap_i64] <;> omega
            · have he : picks c D (i + 1) = { picks c D i with gen := g, slot := (i : Int), text := t } := by
                rw [hpk]; unfold pickS; rw [hgd]; exact if_pos hgt
              have hok := pickS_ok (c := c) (slot := i) b3.ok hbl (by omega)
              rw [← hpk, he] at hok
              rw [he]
              refine ⟨_, E, Hp.set_same _ _ _, ox, b5.snap (by simp [b3.size]) ?_ ?_ ?_ ?_ ((k3.step s4 (by simp)).step sp (by simp <;> omega)) hok⟩
              · simp [Array.getElem?_setIfInBounds, b3.size]
              · simp [Array.getElem?_setIfInBounds, b3.size]
              · simp [Array.getElem?_setIfInBounds, b3.size]
              · intro j hj
                rcases hj with rfl | rfl | rfl | rfl <;> simp [Array.getElem?_setIfInBounds]
          · refine same _ _ (s3.trans s4) ?_
            rw [hpk]; unfold pickS; rw [hgd]; exact if_neg hle
    · obtain rfl : i = 2 := by omega
      refine ld_p b1 b3.disk ?_
      refine read_ok (t := (1, 9)) hd' hw'.errs (fun hb => absurd ⟨by omega, by omega⟩ hb) ?_ ?_
      · intro _ hg
        refine asTu_i (xs := [_, _]) ?_
        refine unc_i ?_
        refine asSl_i ?_
        refine unc_i ?_
        refine nilL_i ?_
        refine nl_err hw'.errs.2.2 ?_
        refine bIf_t rfl ?_
        exact H1 hg _ _ st0
      · intro _ hg o2 h2 a2 c2 k2 s2
        refine asTu_i (xs := [_, _]) ?_
        refine unc_i ?_
        refine asSl_i ?_
        refine unc_i ?_
        refine nilL_i ?_
        refine nl_nil ?_
        refine bIf_f rfl ?_
        have t2 : (2 : Int).toNat = 2 := rfl
        have hr := picks_rest c D 2
        have hLe : ({ picks c D 2 with recs := [], fin := lenR [] } : LS) = picks c D 2 := by
          rw [show lenR [] = (picks c D 2).fin from hr.2.1.symm, ← hr.1]
        refine ⟨(D.seen 2).length, o2, [], rfl, rfl, by simp [lenR], hg, k2.read, ?_, rfl, st0.trans s2.no⟩
        rw [hLe]
        exact hx1.step s2 (by simp) (by simp)
  · rintro n y0 y8 y8n y8c hh ⟨o', pre, hns, rfl, hle, hgone, hb, hx1, hR, st0⟩
    obtain rfl : n = (D.seen 2).length - lenR pre := by simpa using hns
    have hw' := hw.step st0 n00
    have hbl := hDok.seens 2 (by omega)
    have hn8 := len_rc hb
    obtain ⟨cs, E, b1, b2, b3⟩ := id hx1
    obtain ⟨a4, n4, c4, f1, f2⟩ := b3.recs
    obtain ⟨xs, f3, f4⟩ := id f2
    have hn4 : n4 = pre.length := f4.count f3.read (by omega)
    have hg20 := lenR_ge pre
    generalize hT : picks c D 2 = T at *
    generalize hB : D.seen 2 = B at *
    unfold V41_126
    refine ld_i b1 (by rw [Nat.zero_add]; exact b3.fin) ?_
    refine sl_lo elem24 (by simp only; omega) (by simp only; omega) ?_
    simp only [Int.toNat_natCast]
    have hb2 := drop_rc hb hle
    refine ld_i b1 (by rw [Nat.zero_add]; exact b3.gen) ?_
    refine ld_l b1 (by rw [Nat.zero_add]; exact f1) ?_
    subst hn4
    refine next_ok hw'.sha hb2 (by simp <;> omega) ?_ ?_
    · intro hnx o2 h2 a' m' c' s2
      refine asTu_i (xs := [_, _]) ?_
      refine unc_i ?_
      refine asSl_i ?_
      refine unc_i ?_
      refine asBo_i ?_
      refine nilL_i ?_
      refine bIf_t rfl ?_
      unfold loadL at H2
      rw [hT, hB] at H2
      rw [recsL_none hnx, List.append_nil] at hR
      rw [← hR] at H2
      exact H2 hgone o2 h2 (hx1.step s2 (by simp) (by simp)) (st0.trans s2.no)
    · intro t hnx o2 h2 a' c' k2 s2
      have hts := nextF_some hnx
      simp only [List.length_drop] at hts
      refine asTu_i (xs := [_, _]) ?_
      refine unc_i ?_
      refine asSl_i ?_
      refine unc_i ?_
      refine asBo_i ?_
      refine nilL_i ?_
      refine bIf_f rfl ?_
      obtain ⟨g1, g2⟩ := s2.at b1 (by simp)
      refine ld_l g1 (by rw [Nat.zero_add]; exact f1) ?_
      refine clone_ok (t := (0, 0)) k2 (by omega) ?_
      intro o3 h3 a3 c3 k3 s3
      refine asSl_i ?_
      obtain ⟨g3, g4⟩ := s3.at g1 (by simp)
      refine ⟨rd_same leaf44 g1 (by rw [b3.size]; show 0 + 4 < 7; omega) g3, ?_⟩
      refine nw_to ?_
      intro r h4 hr hh4
      have s4 : Step (fun _ => False) o3 h3 (o3.set r (1, 3)) h4 := by rw [hh4]; exact Step.new _ _ hr
      have hb4 : h4 r = some (.cells #[.slice a3 t.length c3] 24) := by rw [hh4]; exact Hp.set_same _ _ _
      obtain ⟨g5, g6⟩ := s4.at g3 (by simp)
      refine ⟨rd_same leaf44 g1 (by rw [b3.size]; show 0 + 4 < 7; omega) g5, ?_⟩
      have b4 := b3.step ((s2.trans s3).trans s4) (by simp) (by simp)
      have f3' := f3.step ((s2.trans s3).trans s4) (by simp)
      have hsrc : Rc (o3.set r (1, 3)) h4 (1, 3) 1 (some ⟨r, 0, none⟩) 1 1 [.slice a3 t.length c3] := by
        refine ⟨rfl, Nat.le_refl _, .inr ⟨r, 0, _, _, _, rfl, Own.set_same _ _ _, hb4, ?_⟩⟩
        intro i v hi
        match i, hi with
        | 0, hi => cases hi; rfl
        | i + 1, hi => simp at hi
      refine append_own (t := (τ, 1)) elem44 f3' hsrc.src (by intro y hy; simp at hy; subst hy; rfl) (by omega) (by omega) ?_
      intro a5 c5 o5 h5 k5 s5 _
      refine asSl_i ?_
      have n5 : ¬ Only (τ, 1) ((o3.set r (1, 3)) x) := by rw [g6, g4, g2, b2]; unfold Only; simp
      obtain ⟨g7, g8⟩ := s5.at g5 n5
      refine st_v g7 (Loose.zero _) rfl (by rw [b3.size]; show 0 + 4 < 7; omega) ?_
      refine ld_i (Hp.set_same _ _ _) (by rw [Array.getElem?_setIfInBounds_ne (by show 0 + 4 ≠ 0 + 5; omega)]; rw [Nat.zero_add]; exact b3.fin) ?_
      refine st_v (Hp.set_same _ _ _) (Loose.zero _) rfl (by simp; rw [b3.size]; show 0 + 5 < 7; omega) ?_
      simp only [Hp.set_set, Nat.zero_add]
      have w1 : IntKind.i64.wrap (20 + ((t.length : Nat) : Int)) = ((20 + t.length : Nat) : Int) := by rw [wrap_i64] <;> omega
      have w2 : IntKind.i64.wrap (((lenR pre : Nat) : Int) + ((20 + t.length : Nat) : Int)) = ((lenR pre + (20 + t.length) : Nat) : Int) := by rw [wrap_i64] <;> omega
      rw [w1, w2]
      have ox : o5 x = (τ, 0) := by rw [g8, g6, g4, g2, b2]
      have sp : Step (fun t => t = (τ, 0)) o5 h5 o5 (h5.set x (.cells ((cs.setIfInBounds 4 (.slice a5 (pre.length + 1) c5)).setIfInBounds 5 (.int .i64 ((lenR pre + (20 + t.length) : Nat) : Int))) E)) := Step.put _ ox
      have z1 : ¬ Only (τ, 1) (0, 0) := by unfold Only; simp <;> omega
      have z2 : ¬ ((0, 0) : Tag) = (τ, 0) := by simp <;> omega
      refine ⟨B.length - lenR (pre ++ [t]), by rw [lenR_snoc]; omega, o5, pre ++ [t], by rw [hB], rfl, by rw [lenR_snoc, hB]; omega, hgone, ?_, ?_, ?_, ?_⟩
      · rw [hB]
        exact ((hb.step ((s2.trans s3).trans s4) (by simp)).step s5 (by unfold Only; simp <;> omega)).step sp (by simp <;> omega)
      · obtain ⟨ta, tn, tc, t1, t2⟩ := b4.text
        rw [hT]
        refine ⟨_, E, Hp.set_same _ _ _, ox, ⟨by simp [b3.size], ?_, ?_, ?_, ⟨ta, tn, tc, ?_, ((t2.step s5 z1).step sp z2)⟩, ⟨a5, pre.length + 1, c5, ?_, ?_⟩, ?_, ?_, ?_⟩⟩
        · simp only [Array.getElem?_setIfInBounds]; simpa using b3.disk
        · simp only [Array.getElem?_setIfInBounds]; simpa using b3.gen
        · simp only [Array.getElem?_setIfInBounds]; simpa using b3.slot
        · simp only [Array.getElem?_setIfInBounds]; simpa using t1
        · simp [Array.getElem?_setIfInBounds, b3.size]
        · refine ⟨xs ++ [.slice a3 t.length c3], k5.step sp (by simp), ?_⟩
          exact (f4.mono fun x cl _ hx => ((hx.step ((s2.trans s3).trans s4) (by simp)).step s5 z1).step sp z2).append (RowsOf.one (PartAt.one (((k3.read.step s4 (by simp)).step s5 z1).step sp z2)) rfl)
        · simp [Array.getElem?_setIfInBounds, b3.size, lenR_snoc]
        · simp only [Array.getElem?_setIfInBounds]; simpa using b3.dead
        · refine ⟨b3.ok.text, rfl, by simp only [lenR_snoc]; omega, b3.ok.gen, b3.ok.slot, ?_⟩
          intro r hr
          rcases List.mem_append.1 hr with hr | hr
          · exact b3.ok.each r hr
          · simp at hr; subst hr; exact hts.2
      · rw [hT, hB, ← hR, recsL_some hnx, lenR_snoc, List.drop_drop, List.append_assoc]
        simp
      · exact ((st0.trans ((s2.trans s3).trans s4).no).trans (s5.mono (by rintro _ rfl; rfl))).trans (sp.mono (by rintro _ rfl; rfl))
  · obtain ⟨L, ⟨cs, E, b1, b2, b3⟩, l1, l2, l3, l4, l5⟩ := hx
    unfold V41
    refine st_v b1 (Loose.zero _) rfl (by rw [b3.size]; show 0 + 2 < 7; omega) ?_
    simp only [Nat.zero_add]
    have sp : Step (fun t => t = (τ, 0)) o h o (h.set x (.cells (cs.setIfInBounds 2 (.int .i64 1)) E)) := Step.put _ b2
    have b4 := b3.step sp (by simp <;> omega) (by simp)
    obtain ⟨ta, tn, tc, t1, t2⟩ := b4.text
    obtain ⟨ra, rn, rc, r1, r2⟩ := b4.recs
    refine ⟨2, 0, o, rfl, by omega, rfl, rfl, ⟨_, E, Hp.set_same _ _ _, b2, ⟨by simp [b3.size], ?_, ?_, ?_, ⟨ta, tn, tc, ?_, by rw [l2] at t2; exact t2⟩, ⟨ra, rn, rc, ?_, by rw [l3] at r2; exact r2⟩, ?_, ?_, L0_ok⟩⟩, sp.mono (by rintro _ rfl; rfl)⟩
    · simp only [Array.getElem?_setIfInBounds]; simpa using b3.disk
    · simp only [Array.getElem?_setIfInBounds]; have := b3.gen; rw [l1] at this; show _ = some (Value.int .i64 0); simpa using this
    · simp [Array.getElem?_setIfInBounds, b3.size]; rfl
    · simp only [Array.getElem?_setIfInBounds]; simpa using t1
    · simp only [Array.getElem?_setIfInBounds]; simpa using r1
    · simp only [Array.getElem?_setIfInBounds]; have := b3.fin; rw [l4] at this; show _ = some (Value.int .i64 0); simpa using this
    · simp only [Array.getElem?_setIfInBounds]; have := b3.dead; rw [l5] at this; show _ = some (Value.bool false); simpa using this
end Go.Proofs.YtcolhmddhaabnaaDoor
set_option linter.unusedVariables false
set_option maxRecDepth 100000
namespace Go.Proofs.YtcolhmddhaabnaaDoor
open Go.H
def WV (e : Errs) (lg : Value) : Nat → Value
  | 0 => .nilIface
  | 1 => e.down
  | 2 => lg
  | _ => e.full
def Two (τ τd : Nat) : Tag → Prop := fun t => t.1 = τ ∨ t.1 = τd
/-! ### write, clear, done, swap -/
def csD (D : DS) (area : Int) : DS × Nat := if (cutD D area 0).2 ≠ 0 then cutD D area 0 else syncD (cutD D area 0).1
def wsD (D : DS) (area pos : Int) (l : Bytes) : DS × Nat := if (writeD D area pos l).2 ≠ 0 then writeD D area pos l else syncD (writeD D area pos l).1
def swD (c : ShaC) (D : DS) (g slot : Int) (text : Bytes) : DS × Nat :=
  if (csD D slot).2 ≠ 0 then csD D slot
  else if (wsD (csD D slot).1 slot 0 (snapB c g text)).2 ≠ 0 then wsD (csD D slot).1 slot 0 (snapB c g text)
  else csD (wsD (csD D slot).1 slot 0 (snapB c g text)).1 2
theorem wait_waits (D : DS) (c : Ch) : (waitD D c).waits.length ≤ D.waits.length + 1 := by
  unfold waitD
  split
  · rw [unitD_waits]; omega
  · simp
theorem cut_waits (D : DS) (area n : Int) : (cutD D area n).1.waits.length ≤ D.waits.length + 1 := by
  unfold cutD
  split
  · exact wait_waits _ _
  · simp
theorem write_waits (D : DS) (area n : Int) (l : Bytes) : (writeD D area n l).1.waits.length ≤ D.waits.length + 1 := by
  unfold writeD
  split
  · split
    · simp
    · exact wait_waits _ _
  · simp
theorem sync_waits (D : DS) : (syncD D).1.waits.length ≤ D.waits.length := by
  unfold syncD
  split
  · simp [unitD_waits]
  · simp
theorem cs_waits (D : DS) (area : Int) : (csD D area).1.waits.length ≤ D.waits.length + 1 := by
  have h1 := cut_waits D area 0
  have h2 := sync_waits (cutD D area 0).1
  unfold csD
  split <;> omega
theorem ws_waits (D : DS) (area n : Int) (l : Bytes) : (wsD D area n l).1.waits.length ≤ D.waits.length + 1 := by
  have h1 := write_waits D area n l
  have h2 := sync_waits (writeD D area n l).1
  unfold wsD
  split <;> omega
theorem sw_waits (c : ShaC) (D : DS) (g slot : Int) (text : Bytes) : (swD c D g slot text).1.waits.length ≤ D.waits.length + 3 := by
  have h1 := cs_waits D slot
  have h2 := ws_waits (csD D slot).1 slot 0 (snapB c g text)
  have h3 := cs_waits (wsD (csD D slot).1 slot 0 (snapB c g text)).1 2
  unfold swD
  (repeat' split) <;> omega
theorem clear_ok {o : Own} {h : Hp} {e : Errs} {τ τd d x : Nat} {D : DS} {L : LS} {area : Int} {K : Value → Hp → Prop} (he : ErrsAt o h e) (hd : DiskAt o h τd d D) (hx : LogAt o h τ d x L) (hτd : 2 ≤ τd) (hne : τ ≠ τd) (hwt : D.waits.length < 1073741000)
    (H : ∀ o' h', DiskAt o' h' τd d (csD D area).1 → LogAt o' h' τ d x L → Step (Of τd) o h o' h' → K (e.val (csD D area).2) h') : Spec P 64 #[.pointer (some ⟨x, 0, none⟩), .int .i64 area] h K := by
  have n00 : ¬ Of τd (0, 0) := by unfold Of; simp; omega
  have nx : ∀ k, ¬ Of τd (τ, k) := by intro k; unfold Of; simp; omega
  obtain ⟨cs, E, b1, b2, b3⟩ := id hx
  refine S64 ?_
  unfold V64
  refine ld_p b1 b3.disk ?_
  refine cut_ok hd he hτd (by omega) ?_
  intro o2 h2 hd2 s2
  have he2 := he.of s2 hτd
  have hx2 := hx.step s2 n00 nx
  have hcw := cut_waits D area 0
  unfold csD at H
  refine nl_val he2 ?_
  by_cases hr : (cutD D area 0).2 ≠ 0
  · rw [if_pos hr] at H
    refine bIf_t (decide_eq_true hr) ?_
    exact H _ _ hd2 hx2 s2
  · rw [if_neg hr] at H
    refine bIf_f (decide_eq_false hr) ?_
    obtain ⟨cs', E', c1, c2, c3⟩ := id hx2
    refine ld_p c1 c3.disk ?_
    refine sync_ok hd2 he2 hτd ?_
    intro o3 h3 hd3 s3
    exact H _ _ hd3 (hx2.step s3 n00 nx) (s2.trans s3)
theorem lwrite_ok {o : Own} {h : Hp} {e : Errs} {τ τd d x : Nat} {D : DS} {L : LS} {area pos : Int} {tb : Tag} {a : Option Addr} {n cp : Nat} {l : Bytes} {K : Value → Hp → Prop} (he : ErrsAt o h e) (hd : DiskAt o h τd d D) (hx : LogAt o h τ d x L) (hτd : 2 ≤ τd) (hne : τ ≠ τd) (hwt : D.waits.length < 1073741000)
    (hb : Rc o h tb 1 a n cp (l.map bc)) (hl : l.length ≤ 1099511627776)
    (H : ∀ o' h', DiskAt o' h' τd d (wsD D area pos l).1 → LogAt o' h' τ d x L → Step (Of τd) o h o' h' → K (e.val (wsD D area pos l).2) h') : Spec P 46 #[.pointer (some ⟨x, 0, none⟩), .int .i64 area, .int .i64 pos, .slice a n cp] h K := by
  have n00 : ¬ Of τd (0, 0) := by unfold Of; simp; omega
  have nx : ∀ k, ¬ Of τd (τ, k) := by intro k; unfold Of; simp; omega
  obtain ⟨cs, E, b1, b2, b3⟩ := id hx
  refine S46 ?_
  unfold V46
  refine ld_p b1 b3.disk ?_
  refine write_ok hd he hτd (by omega) hb hl ?_
  intro o2 h2 hd2 s2
  have he2 := he.of s2 hτd
  have hx2 := hx.step s2 n00 nx
  unfold wsD at H
  refine nl_val he2 ?_
  by_cases hr : (writeD D area pos l).2 ≠ 0
  · rw [if_pos hr] at H
    refine bIf_t (decide_eq_true hr) ?_
    exact H _ _ hd2 hx2 s2
  · rw [if_neg hr] at H
    refine bIf_f (decide_eq_false hr) ?_
    obtain ⟨cs', E', c1, c2, c3⟩ := id hx2
    refine ld_p c1 c3.disk ?_
    refine sync_ok hd2 he2 hτd ?_
    intro o3 h3 hd3 s3
    exact H _ _ hd3 (hx2.step s3 n00 nx) (s2.trans s3)
theorem done_ok {o : Own} {h : Hp} {e : Errs} {τ d x : Nat} {L : LS} {r : Nat} {K : Value → Hp → Prop} (he : ErrsAt o h e) (hx : LogAt o h τ d x L) (hτ : 2 ≤ τ)
    (H0 : r = 0 → K .nilIface h) (H1 : r ≠ 0 → ∀ o' h', LogAt o' h' τ d x { L with dead := true } → Step (Of τ) o h o' h' → K e.down h') : Spec P 43 #[.pointer (some ⟨x, 0, none⟩), e.val r] h K := by
  obtain ⟨cs, E, b1, b2, b3⟩ := id hx
  refine S43 ?_
  unfold V43
  refine nl_val he ?_
  by_cases hr : r ≠ 0
  · refine bIf_t (decide_eq_true hr) ?_
    refine st_v b1 (Loose.zero _) rfl (by rw [b3.size]; show 0 + 6 < 7; omega) ?_
    simp only [Nat.zero_add]
    have sp : Step (fun t => t = (τ, 0)) o h o (h.set x (.cells (cs.setIfInBounds 6 (.bool true)) E)) := Step.put _ b2
    have b4 := b3.step sp (by simp <;> omega) (by simp)
    obtain ⟨ta, tn, tc, t1, t2⟩ := b4.text
    obtain ⟨ra, rn, rc, r1, r2⟩ := b4.recs
    have he2 := he.step sp (by simp <;> omega)
    refine ld_err he2.2.2 ?_
    refine H1 hr o _ ⟨_, E, Hp.set_same _ _ _, b2, ⟨by simp [b3.size], ?_, ?_, ?_, ⟨ta, tn, tc, ?_, t2⟩, ⟨ra, rn, rc, ?_, r2⟩, ?_, ?_, ⟨b3.ok.text, b3.ok.sum, b3.ok.fin, b3.ok.gen, b3.ok.slot, b3.ok.each⟩⟩⟩ (sp.mono (by rintro _ rfl; rfl))
    · simp only [Array.getElem?_setIfInBounds]; simpa using b3.disk
    · simp only [Array.getElem?_setIfInBounds]; simpa using b3.gen
    · simp only [Array.getElem?_setIfInBounds]; simpa using b3.slot
    · simp only [Array.getElem?_setIfInBounds]; simpa using t1
    · simp only [Array.getElem?_setIfInBounds]; simpa using r1
    · simp only [Array.getElem?_setIfInBounds]; simpa using b3.fin
    · simp [Array.getElem?_setIfInBounds, b3.size]
  · refine bIf_f (decide_eq_false hr) ?_
    exact H0 (by simpa using hr)
theorem swap_ok {o : Own} {h : Hp} {e : Errs} {c : ShaC} {τ τd d x : Nat} {D : DS} {L : LS} {g slot : Int} {tb : Tag} {a : Option Addr} {n cp : Nat} {t : Bytes} {K : Value → Hp → Prop} (he : ErrsAt o h e) (hc : ShaAt o h c) (hd : DiskAt o h τd d D) (hx : LogAt o h τ d x L) (hτd : 2 ≤ τd) (hne : τ ≠ τd) (hwt : D.waits.length < 1073740000)
    (hb : Rc o h tb 1 a n cp (t.map bc)) (htb : tb.1 ≠ τd) (hl : t.length ≤ 1073740000)
    (H : ∀ o' h', DiskAt o' h' τd d (swD c D g slot t).1 → LogAt o' h' τ d x L → Step (Of τd) o h o' h' → K (e.val (swD c D g slot t).2) h') : Spec P 44 #[.pointer (some ⟨x, 0, none⟩), .agg #[.int .i64 g, .int .i64 slot, .slice a n cp]] h K := by
  have n00 : ¬ Of τd (0, 0) := by unfold Of; simp; omega
  have n17 : ¬ Of τd (1, 7) := by unfold Of; simp; omega
  have nx : ∀ k, ¬ Of τd (τ, k) := by intro k; unfold Of; simp; omega
  refine S44 ?_
  unfold V44
  refine nw_to ?_
  intro r h1 hr hh1
  have s1 : Step (fun _ => False) o h (o.set r (1, 7)) h1 := by rw [hh1]; exact Step.new _ _ hr
  have hb1 : h1 r = some (.cells #[.int .i64 g, .int .i64 slot, .slice a n cp] 86) := by rw [hh1]; exact Hp.set_same _ _ _
  have or1 : (o.set r (1, 7)) r = (1, 7) := Own.set_same _ _ _
  refine ld_i hb1 rfl ?_
  unfold swD at H
  have w1 := cs_waits D slot
  refine clear_ok (he.step s1 (by simp)) (hd.step s1 (by simp) (by simp)) (hx.step s1 (by simp) (by simp)) hτd hne (by omega) ?_
  intro o2 h2 hd2 hx2 s2
  have s12 : Step (Of τd) o h o2 h2 := s1.no.trans s2
  refine nl_val (he.step s12 n00) ?_
  by_cases hr1 : (csD D slot).2 ≠ 0
  · rw [if_pos hr1] at H
    refine bIf_t (decide_eq_true hr1) ?_
    exact H _ _ hd2 hx2 s12
  rw [if_neg hr1] at H
  refine bIf_f (decide_eq_false hr1) ?_
  obtain ⟨f1, f2⟩ := s2.at hb1 (by rw [or1]; exact n17)
  refine ld_i f1 rfl ?_
  refine ld_i f1 rfl ?_
  refine ld_i f1 rfl ?_
  refine ld_l f1 rfl ?_
  have hbt := hb.step s12 (by unfold Of; exact htb)
  refine bytes_ok (t := (0, 0)) (hc.step s12 n00) hbt (by omega) ?_
  intro o3 h3 a3 c3 k3 s3
  refine asSl_i ?_
  obtain ⟨f3, f4⟩ := s3.at f1 (by simp)
  refine ⟨rd_same leaf3 f1 (by simp) f3, ?_⟩
  have s13 : Step (Of τd) o h o3 h3 := s12.trans s3.no
  have w2 := ws_waits (csD D slot).1 slot 0 (snapB c g t)
  refine lwrite_ok (he.step s13 n00) (hd2.step s3 (by simp) (by simp)) (hx2.step s3 (by simp) (by simp)) hτd hne (by omega) k3.read (by rw [snapB_len]; omega) ?_
  intro o4 h4 hd4 hx4 s4
  have s14 := s13.trans s4
  refine nl_val (he.step s14 n00) ?_
  by_cases hr2 : (wsD (csD D slot).1 slot 0 (snapB c g t)).2 ≠ 0
  · rw [if_pos hr2] at H
    refine bIf_t (decide_eq_true hr2) ?_
    exact H _ _ hd4 hx4 s14
  rw [if_neg hr2] at H
  refine bIf_f (decide_eq_false hr2) ?_
  refine clear_ok (he.step s14 n00) hd4 hx4 hτd hne (by omega) ?_
  intro o5 h5 hd5 hx5 s5
  exact H _ _ hd5 hx5 (s14.trans s5)
end Go.Proofs.YtcolhmddhaabnaaDoor
set_option linter.unusedVariables false
set_option maxRecDepth 100000
namespace Go.Proofs.YtcolhmddhaabnaaDoor
open Go.H
theorem nm_sub (t : Bool) (a b : Int) (h h' : Hp) : rd P (sBin .sub 3 t (.int .i64 a) (.int .i64 b)) h = rd P (sBin .sub 3 t (.int .i64 a) (.int .i64 b)) h' := by cases t <;> kernel_rfl
theorem nm_add (t : Bool) (a b : Int) (h h' : Hp) : rd P (sBin .add 3 t (.int .i64 a) (.int .i64 b)) h = rd P (sBin .add 3 t (.int .i64 a) (.int .i64 b)) h' := by cases t <;> kernel_rfl
theorem nm_len (a : Option Addr) (n c : Nat) (h h' : Hp) : rd P (Builtin.len_ #[24] 3 #[.slice a n c]) h = rd P (Builtin.len_ #[24] 3 #[.slice a n c]) h' := by kernel_rfl
theorem build86 (a b : Int) (s : Option Addr) (n c : Nat) (h : Hp) : rd P (Instr.build 86 #[(0, .int .i64 a), (1, .int .i64 b), (2, .slice s n c)]) h = some (.agg [.int .i64 a, .int .i64 b, .slice s n c].toArray) := by kernel_rfl
theorem leaf29 : leafOk P 29 = true := by kernel_rfl
/-- What was read of a block that stands is read again. -/
theorem same_at {T : TypeId} {h h' : Hp} {b o : Nat} {cs : Array Value} {E : TypeId} {fr : Nat × Nat} (hb : h b = some (.cells cs E fr)) (hb' : h' b = some (.cells cs E fr)) (hl : leafOk P T = true) (ho : Nat.ble (o + 1) cs.size = true) :
    rd P (Instr.loadAt T (.pointer (some ⟨b, o, none⟩))) h' = rd P (Instr.loadAt T (.pointer (some ⟨b, o, none⟩))) h := rd_same hl hb (Nat.le_of_ble_eq_true ho) hb'
/-! ### Append -/
def appD (c : ShaC) (D : DS) (L : LS) (text : Bytes) : DS × LS × Nat :=
  if L.dead = true then (D, L, 1)
  else if text.length > 16384 then (D, L, 2)
  else if (20 : Int) + text.length > freeD D then (D, L, 3)
  else if (wsD D 2 L.fin (recB c L.gen L.recs.length text)).2 ≠ 0 then ((wsD D 2 L.fin (recB c L.gen L.recs.length text)).1, { L with dead := true }, 1)
  else ((wsD D 2 L.fin (recB c L.gen L.recs.length text)).1, { L with recs := L.recs ++ [text], fin := L.fin + (20 + text.length) }, 0)
theorem ws_end {D : DS} {area pos : Int} {l : Bytes} (hok : D.Ok) (hr : D.room ≤ 1048576) (h : (wsD D area pos l).2 = 0) : pos + l.length ≤ 1048576 := by
  unfold wsD at h
  have hw : (writeD D area pos l).2 = 0 := by
    by_cases h2 : (writeD D area pos l).2 ≠ 0
    · rw [if_pos h2] at h; exact h
    · simpa using h2
  unfold writeD at hw
  by_cases h1 : (0 ≤ area ∧ area < 3) ∧ 0 ≤ pos ∧ pos ≤ szD D area
  · rw [if_pos h1] at hw
    by_cases h2 : pos + l.length - szD D area > max 0 (freeD D)
    · rw [if_pos h2] at hw; simp at hw
    · exact write_end hok hr h1 h2
  · rw [if_neg h1] at hw; simp at hw
theorem append_ok {o : Own} {h : Hp} {e : Errs} {lg : Value} {c : ShaC} {τ τd d x : Nat} {D : DS} {L : LS} {tb : Tag} {a : Option Addr} {n cp : Nat} {text : Bytes} {K : Value → Hp → Prop} (hw : WEnv o h e lg c) (hd : DiskAt o h τd d D) (hx : LogAt o h τ d x L) (hτ : 2 ≤ τ) (hτd : 2 ≤ τd) (hne : τ ≠ τd) (hwt : D.waits.length < 1073740000)
    (hb : Rc o h tb 1 a n cp (text.map bc)) (ht1 : tb.1 ≠ τ) (ht2 : tb.1 ≠ τd) (hl : text.length ≤ 1073740000)
    (H : ∀ o' h', DiskAt o' h' τd d (appD c D L text).1 → LogAt o' h' τ d x (appD c D L text).2.1 → Step (Two τ τd) o h o' h' → K (WV e lg (appD c D L text).2.2) h') : Spec P 21 #[.pointer (some ⟨x, 0, none⟩), .slice a n cp] h K := by
  have n00 : ¬ Two τ τd (0, 0) := by unfold Two; simp; omega
  have d00 : ¬ Of τd (0, 0) := by unfold Of; simp; omega
  have nb : ¬ Two τ τd tb := by unfold Two; simp; omega
  have dx : ∀ k, ¬ Of τd (τ, k) := by intro k; unfold Of; simp; omega
  have xd : ∀ k, ¬ Of τ (τd, k) := by intro k; unfold Of; simp; omega
  have two1 : ∀ t, Of τ t → Two τ τd t := fun t h => .inl h
  have two2 : ∀ t, Of τd t → Two τ τd t := fun t h => .inr h
  have hn := len_rc hb
  obtain ⟨cs, E, b1, b2, b3⟩ := id hx
  unfold appD at H
  refine S21 ?_
  unfold V21
  refine ld_b b1 (by rw [Nat.zero_add]; exact b3.dead) ?_
  refine bIf_ite (fun hdead => ?_) (fun hdead => ?_)
  · rw [if_pos hdead] at H
    exact ld_err hw.errs.2.2 (H _ _ hd hx (.refl _ _ _))
  rw [if_neg (by rw [hdead]; simp)] at H
  refine bIf_dec (fun hlong => ?_) (fun hlong => ?_)
  · rw [if_pos (by omega)] at H
    exact ld_err hw.long (H _ _ hd hx (.refl _ _ _))
  rw [if_neg (by omega)] at H
  refine ld_p b1 b3.disk ?_
  refine free_ok hd ?_
  refine asIn_i ?_
  have w1 : IntKind.i64.wrap (20 + ((n : Nat) : Int)) = 20 + (text.length : Int) := by rw [wrap_i64] <;> omega
  rw [w1]
  refine bIf_dec (fun hfull => ?_) (fun hfull => ?_)
  · rw [if_pos hfull] at H
    exact ld_err hw.errs.2.1 (H _ _ hd hx (.refl _ _ _))
  rw [if_neg hfull] at H
  obtain ⟨ra, rn, rc, r1, r2⟩ := b3.recs
  obtain ⟨xs, r3, r4⟩ := id r2
  have hrn : rn = L.recs.length := r4.count r3.read (by omega)
  subst hrn
  refine ld_i b1 (by rw [Nat.zero_add]; exact b3.gen) ?_
  refine ld_l b1 (by rw [Nat.zero_add]; exact r1) ?_
  refine record_ok (t := (0, 0)) hw.sha hb (by omega) ?_
  intro o2 h2 a2 c2 k2 s2
  refine asSl_i ?_
  obtain ⟨f1, f2⟩ := s2.at b1 (by simp)
  refine ld_i f1 (by rw [Nat.zero_add]; exact b3.fin) ?_
  have hlen := recB_len c L.gen L.recs.length text
  have hdok := hd.ok
  have hroom := hd.room
  refine lwrite_ok (hw.errs.step s2 (by simp)) (hd.step s2 (by simp) (by simp)) (hx.step s2 (by simp) (by simp)) hτd hne (by omega) k2.read (by omega) ?_
  intro o3 h3 hd3 hx3 s3
  have s03 : Step (Of τd) o h o3 h3 := s2.no.trans s3
  have hw3 := hw.step s03 d00
  have hwend := ws_end (D := D) (area := 2) (pos := (L.fin : Int)) (l := recB c L.gen L.recs.length text) hdok hroom.2
  generalize wsD D 2 L.fin (recB c L.gen L.recs.length text) = R at *
  refine done_ok hw3.errs hx3 hτ ?_ ?_
  · intro hr
    rw [if_neg (by simpa using hr)] at H
    refine nl_nil ?_
    refine bIf_f rfl ?_
    obtain ⟨cs3, E3, g1, g2, g3⟩ := id hx3
    obtain ⟨ra, rn, rc, r1, r2⟩ := g3.recs
    obtain ⟨xs, r3, r4⟩ := id r2
    have hrn : rn = L.recs.length := r4.count r3.read (by omega)
    subst hrn
    refine ld_l g1 (by rw [Nat.zero_add]; exact r1) ?_
    have hb3 := hb.step s03 (by unfold Of; exact ht2)
    refine clone_ok (t := (0, 0)) hb3 (by omega) ?_
    intro o4 h4 a4 c4 k4 s4
    refine asSl_i ?_
    obtain ⟨g5, g6⟩ := s4.at g1 (by simp)
    have hsz3 : Nat.ble (0 + 4 + 1) cs3.size = true := by rw [g3.size]; rfl
    refine ⟨same_at g1 g5 leaf44 hsz3, ?_⟩
    refine nw_to ?_
    intro r h5 hr5 hh5
    have s5 : Step (fun _ => False) o4 h4 (o4.set r (1, 3)) h5 := by rw [hh5]; exact Step.new _ _ hr5
    have hb5 : h5 r = some (.cells #[.slice a4 n c4] 24) := by rw [hh5]; exact Hp.set_same _ _ _
    obtain ⟨g7, g8⟩ := s5.at g5 (by simp)
    refine ⟨same_at g1 g7 leaf44 hsz3, ?_⟩
    have b4 := g3.step (s4.trans s5) (by simp) (by simp)
    have r3' := r3.step (s4.trans s5) (by simp)
    have hrecs := g3.ok.recs
    have hsrc : Rc (o4.set r (1, 3)) h5 (1, 3) 1 (some ⟨r, 0, none⟩) 1 1 [.slice a4 n c4] := by
      refine ⟨rfl, Nat.le_refl _, .inr ⟨r, 0, _, _, _, rfl, Own.set_same _ _ _, hb5, ?_⟩⟩
      intro i v hi
      match i, hi with
      | 0, hi => cases hi; rfl
      | i + 1, hi => simp at hi
    refine append_own (t := (τ, 1)) elem44 r3' hsrc.src (by intro y hy; simp at hy; subst hy; rfl) (by omega) (by omega) ?_
    intro a6 c6 o6 h6 k6 s6 _
    refine asSl_i ?_
    have n6 : ¬ Only (τ, 1) ((o4.set r (1, 3)) x) := by rw [g8, g6, g2]; unfold Only; simp
    obtain ⟨g9, g10⟩ := s6.at g7 n6
    refine st_v g9 (Loose.zero _) rfl (by rw [g3.size]; show 0 + 4 < 7; omega) ?_
    refine ld_i (Hp.set_same _ _ _) (by rw [Array.getElem?_setIfInBounds_ne (by show 0 + 4 ≠ 0 + 5; omega)]; rw [Nat.zero_add]; exact g3.fin) ?_
    refine st_v (Hp.set_same _ _ _) (Loose.zero _) rfl (by simp; rw [g3.size]; show 0 + 5 < 7; omega) ?_
    simp only [Hp.set_set, Nat.zero_add]
    have hwe := hwend hr
    have w2 : IntKind.i64.wrap ((L.fin : Int) + (((recB c L.gen L.recs.length text).length : Nat) : Int)) = ((L.fin + (20 + text.length) : Nat) : Int) := by rw [hlen, wrap_i64] <;> omega
    rw [w2]
    have ox : o6 x = (τ, 0) := by rw [g10, g8, g6, g2]
    have sp : Step (fun t => t = (τ, 0)) o6 h6 o6 (h6.set x (.cells ((cs3.setIfInBounds 4 (.slice a6 (L.recs.length + 1) c6)).setIfInBounds 5 (.int .i64 ((L.fin + (20 + text.length) : Nat) : Int))) E3)) := Step.put _ ox
    have z1 : ¬ Only (τ, 1) (0, 0) := by unfold Only; simp <;> omega
    have z2 : ¬ ((0, 0) : Tag) = (τ, 0) := by simp <;> omega
    have sX : Step (Of τ) o3 h3 o6 _ := ((s4.trans s5).no.trans (s6.mono (by rintro _ rfl; rfl))).trans (sp.mono (by rintro _ rfl; rfl))
    obtain ⟨ta, tn, tc, t1, t2⟩ := b4.text
    refine H o6 _ (hd3.step sX (by unfold Of; simp; omega) xd) ?_ ((s03.mono two2).trans (sX.mono two1))
    refine ⟨_, E3, Hp.set_same _ _ _, ox, ⟨by simp [g3.size], ?_, ?_, ?_, ⟨ta, tn, tc, ?_, ((t2.step s6 z1).step sp z2)⟩, ⟨a6, L.recs.length + 1, c6, ?_, ?_⟩, ?_, ?_, ?_⟩⟩
    · simp only [Array.getElem?_setIfInBounds]; simpa using g3.disk
    · simp only [Array.getElem?_setIfInBounds]; simpa using g3.gen
    · simp only [Array.getElem?_setIfInBounds]; simpa using g3.slot
    · simp only [Array.getElem?_setIfInBounds]; simpa using t1
    · simp [Array.getElem?_setIfInBounds, g3.size]
    · refine ⟨xs ++ [.slice a4 n c4], k6.step sp (by simp), ?_⟩
      exact (r4.mono fun x cl _ hx => ((hx.step (s4.trans s5) (by simp)).step s6 z1).step sp z2).append (RowsOf.one (PartAt.one (((k4.read.step s5 (by simp)).step s6 z1).step sp z2)) rfl)
    · simp [Array.getElem?_setIfInBounds, g3.size]
    · simp only [Array.getElem?_setIfInBounds]; simpa using g3.dead
    · refine ⟨g3.ok.text, by rw [lenR_snoc]; have := g3.ok.sum; simp only at this ⊢; omega, by simp only; omega, g3.ok.gen, g3.ok.slot, ?_⟩
      intro r hr
      rcases List.mem_append.1 hr with hr | hr
      · exact g3.ok.each r hr
      · simp at hr; subst hr; omega
  · intro hr o4 h4 hx4 s4
    rw [if_pos hr] at H
    have s04 : Step (Two τ τd) o h o4 h4 := (s03.mono two2).trans (s4.mono two1)
    refine nl_err (hw.step s04 n00).errs.2.2 ?_
    refine bIf_t rfl ?_
    exact H o4 h4 (hd3.step s4 (by unfold Of; simp; omega) xd) hx4 s04
end Go.Proofs.YtcolhmddhaabnaaDoor
set_option linter.unusedVariables false
set_option maxRecDepth 100000
namespace Go.Proofs.YtcolhmddhaabnaaDoor
open Go.H
/-! ### Compact -/
def compD (c : ShaC) (D : DS) (L : LS) (text : Bytes) : DS × LS × Nat :=
  if L.dead = true then (D, L, 1)
  else if L.gen ≥ 2147483647 ∨ ((snapB c (L.gen + 1) text).length : Int) - szD D (1 - L.slot) > freeD D then (D, L, 3)
  else if (swD c D (L.gen + 1) (1 - L.slot) text).2 ≠ 0 then ((swD c D (L.gen + 1) (1 - L.slot) text).1, { L with dead := true }, 1)
  else ((swD c D (L.gen + 1) (1 - L.slot) text).1, ⟨L.gen + 1, 1 - L.slot, text, [], 0, L.dead⟩, 0)
theorem comp_tail {o : Own} {h : Hp} {e : Errs} {lg : Value} {c : ShaC} {τ τd d x r : Nat} {D : DS} {L : LS} {a : Option Addr} {n cp : Nat} {text : Bytes} {b : Bool} {K : Value → Hp → Prop} (hw : WEnv o h e lg c) (hd : DiskAt o h τd d D) (hx : LogAt o h τ d x L) (hτ : 2 ≤ τ) (hτd : 2 ≤ τd) (hne : τ ≠ τd) (hwt : D.waits.length < 1073730000)
    (hr : h r = some (.cells #[.int .i64 (L.gen + 1), .int .i64 (1 - L.slot), .slice a n cp] 86)) (hor : o r = (1, 7)) (hb : Rc o h (0, 0) 1 a n cp (text.map bc)) (hl : text.length ≤ 1048576) (hdead : L.dead = false)
    (hbb : b = decide (L.gen ≥ 2147483647 ∨ ((snapB c (L.gen + 1) text).length : Int) - szD D (1 - L.slot) > freeD D))
    (H : ∀ o' h', DiskAt o' h' τd d (compD c D L text).1 → LogAt o' h' τ d x (compD c D L text).2.1 → Step (Two τ τd) o h o' h' → K (WV e lg (compD c D L text).2.2) h') : V20_s30 K ⟨x, 0, none⟩ ⟨r, 0, none⟩ b h := by
  have n00 : ¬ Two τ τd (0, 0) := by unfold Two; simp; omega
  have d00 : ¬ Of τd (0, 0) := by unfold Of; simp; omega
  have dx : ∀ k, ¬ Of τd (τ, k) := by intro k; unfold Of; simp; omega
  have xd : ∀ k, ¬ Of τ (τd, k) := by intro k; unfold Of; simp; omega
  have two1 : ∀ t, Of τ t → Two τ τd t := fun t h => .inl h
  have two2 : ∀ t, Of τd t → Two τ τd t := fun t h => .inr h
  unfold compD at H
  rw [if_neg (by rw [hdead]; simp)] at H
  unfold V20_s30
  subst hbb
  refine bIf_dec (fun hfull => ?_) (fun hfull => ?_)
  · rw [if_pos hfull] at H
    exact ld_err hw.errs.2.1 (H _ _ hd hx (.refl _ _ _))
  rw [if_neg hfull] at H
  have hxok : L.Ok := by obtain ⟨_, _, _, _, q⟩ := hx; exact q.ok
  unfold V20_s15
  refine ld_i hr rfl ?_
  refine ld_i hr rfl ?_
  refine ld_l hr rfl ?_
  refine swap_ok hw.errs hw.sha hd hx hτd hne (by omega) hb (by simp; omega) (by omega) ?_
  intro o3 h3 hd3 hx3 s3
  have hw3 := hw.step s3 d00
  generalize swD c D (L.gen + 1) (1 - L.slot) text = R at *
  obtain ⟨hr3, hor3⟩ := s3.at hr (by rw [hor]; unfold Of; simp; omega)
  refine done_ok hw3.errs hx3 hτ ?_ ?_
  · intro hz
    rw [if_neg (by simpa using hz)] at H
    refine nl_nil ?_
    refine bIf_f rfl ?_
    obtain ⟨cs, E, g1, g2, g3⟩ := id hx3
    refine ld_i hr3 rfl ?_
    refine ld_i hr3 rfl ?_
    refine ld_l hr3 rfl ?_
    refine st_v g1 (Loose.zero _) rfl (by rw [g3.size]; show 0 + 1 < 7; omega) ?_
    refine st_v (Hp.set_same _ _ _) (Loose.zero _) rfl (by simp; rw [g3.size]; show 0 + 2 < 7; omega) ?_
    refine st_v (Hp.set_same _ _ _) (Loose.zero _) rfl (by simp; rw [g3.size]; show 0 + 3 < 7; omega) ?_
    refine st_v (Hp.set_same _ _ _) (Loose.zero _) rfl (by simp; rw [g3.size]; show 0 + 4 < 7; omega) ?_
    refine st_v (Hp.set_same _ _ _) (Loose.zero _) rfl (by simp; rw [g3.size]; show 0 + 5 < 7; omega) ?_
    simp only [Hp.set_set, Nat.zero_add]
    have sp : ∀ X, Step (fun t => t = (τ, 0)) o3 h3 o3 (h3.set x X) := fun X => Step.put _ g2
    have z2 : ¬ ((0, 0) : Tag) = (τ, 0) := by simp <;> omega
    refine H o3 _ (hd3.step (sp _) z2 (by simp; omega)) ⟨_, E, Hp.set_same _ _ _, g2, ⟨by simp [g3.size], ?_, ?_, ?_, ⟨a, n, cp, ?_, ((hb.step s3 d00).step (sp _) z2)⟩, ⟨none, 0, 0, ?_, ⟨[], Oc.nil _, rfl⟩⟩, ?_, ?_, ?_⟩⟩ ((s3.mono two2).trans ((sp _).mono (by rintro _ rfl; exact .inl rfl)))
    · simp only [Array.getElem?_setIfInBounds]; simpa using g3.disk
    · simp [Array.getElem?_setIfInBounds, g3.size]
    · simp [Array.getElem?_setIfInBounds, g3.size]
    · simp [Array.getElem?_setIfInBounds, g3.size]
    · simp [Array.getElem?_setIfInBounds, g3.size]
    · simp [Array.getElem?_setIfInBounds, g3.size]
    · simp only [Array.getElem?_setIfInBounds]; simpa using g3.dead
    · have hg := hxok.gen
      have hs := hxok.slot
      refine ⟨hl, rfl, by simp, ⟨by simp only; omega, by simp only; omega⟩, by simp only; omega, by simp⟩
  · intro hz o4 h4 hx4 s4
    rw [if_pos hz] at H
    have s04 : Step (Two τ τd) o h o4 h4 := (s3.mono two2).trans (s4.mono two1)
    refine nl_err (hw.step s04 n00).errs.2.2 ?_
    refine bIf_t rfl ?_
    exact H o4 h4 (hd3.step s4 (by unfold Of; simp; omega) xd) hx4 s04
theorem compact_ok {o : Own} {h : Hp} {e : Errs} {lg : Value} {c : ShaC} {τ τd d x : Nat} {D : DS} {L : LS} {tb : Tag} {a : Option Addr} {n cp : Nat} {text : Bytes} {K : Value → Hp → Prop} (hw : WEnv o h e lg c) (hd : DiskAt o h τd d D) (hx : LogAt o h τ d x L) (hτ : 2 ≤ τ) (hτd : 2 ≤ τd) (hne : τ ≠ τd) (hwt : D.waits.length < 1073730000)
    (hb : Rc o h tb 1 a n cp (text.map bc)) (hl : text.length ≤ 1048576)
    (H : ∀ o' h', DiskAt o' h' τd d (compD c D L text).1 → LogAt o' h' τ d x (compD c D L text).2.1 → Step (Two τ τd) o h o' h' → K (WV e lg (compD c D L text).2.2) h') : Spec P 20 #[.pointer (some ⟨x, 0, none⟩), .slice a n cp] h K := by
  have hn := len_rc hb
  obtain ⟨cs, E, b1, b2, b3⟩ := id hx
  refine S20 ?_
  unfold V20
  refine ld_b b1 (by rw [Nat.zero_add]; exact b3.dead) ?_
  refine bIf_ite (fun hdead => ?_) (fun hdead => ?_)
  · unfold compD at H
    rw [if_pos hdead] at H
    exact ld_err hw.errs.2.2 (H _ _ hd hx (.refl _ _ _))
  have hg := b3.ok.gen
  have hs := b3.ok.slot
  have hsz : ∀ k, k ≤ 7 → Nat.ble k cs.size = true := fun k hk => by rw [b3.size]; exact Nat.ble_eq_true_of_le hk
  refine ld_i b1 (by rw [Nat.zero_add]; exact b3.gen) ?_
  refine ld_i b1 (by rw [Nat.zero_add]; exact b3.slot) ?_
  have wg : IntKind.i64.wrap (L.gen + 1) = L.gen + 1 := by rw [wrap_i64] <;> omega
  have ws : IntKind.i64.wrap (1 - L.slot) = 1 - L.slot := by rw [wrap_i64] <;> omega
  have hszD := szD_le hd.ok (1 - L.slot)
  have hsl := snapB_len c (L.gen + 1) text
  have wc : IntKind.i64.wrap (((snapB c (L.gen + 1) text).length : Int) - (szD D (1 - L.slot) : Int)) = ((snapB c (L.gen + 1) text).length : Int) - (szD D (1 - L.slot) : Int) := by rw [wrap_i64] <;> omega
  refine ⟨?_, ?_⟩
  · refine clone_ok (t := (0, 0)) hb (by omega) ?_
    intro o1 h1 a1 c1 k1 s1
    refine asSl_i ?_
    have q1 := (s1.at b1 (by simp)).1
    refine ⟨by (repeat' apply And.intro) <;> first | exact nm_sub _ _ _ _ _ | exact nm_add _ _ _ _ _ | exact same_at b1 q1 leaf3 (hsz _ (by show 0 + _ + 1 ≤ 7; omega)), ?_⟩
    refine nw_to ?_
    intro r h2 hr hh2
    have s2 : Step (fun _ => False) o1 h1 (o1.set r (1, 7)) h2 := by rw [hh2]; exact Step.new _ _ hr
    have q2 := (s2.at q1 (by simp)).1
    refine ⟨by (repeat' apply And.intro) <;> first | exact (build86 _ _ _ _ _ _).trans (build86 _ _ _ _ _ _).symm | exact nm_sub _ _ _ _ _ | exact nm_add _ _ _ _ _ | exact same_at b1 q2 leaf3 (hsz _ (by show 0 + _ + 1 ≤ 7; omega)), ?_⟩
    subst hh2
    iterate 3 refine st_v (Hp.set_same _ _ _) (Loose.zero _) rfl (by simp) ?_
    simp only [Hp.set_set]
    rw [wg, ws]
    have hr0 : h r = none := by
      cases hq : h r with
      | none => rfl
      | some v => exact absurd hr (s1.stays r (by simp [hq]))
    have s3 : Step (fun _ => False) o h (o1.set r (1, 7)) (h1.set r (.cells #[.int .i64 (L.gen + 1), .int .i64 (1 - L.slot), .slice a1 n c1] 86)) := s1.trans (Step.new _ _ hr)
    have k3 : Rc (o1.set r (1, 7)) (h1.set r (.cells #[.int .i64 (L.gen + 1), .int .i64 (1 - L.slot), .slice a1 n c1] 86)) (0, 0) 1 a1 n c1 (text.map bc) := k1.read.step (Step.new (S := fun _ => False) (.cells #[.int .i64 (L.gen + 1), .int .i64 (1 - L.slot), .slice a1 n c1] 86) (1, 7) hr) (by simp)
    have hor : (o1.set r (1, 7)) r = (1, 7) := Own.set_same _ _ _
    generalize ho2 : o1.set r (1, 7) = o2 at *
    generalize hg3 : Hp.set h1 r _ = h3
    have hg4 : h3 = h1.set r (.cells #[.int .i64 (L.gen + 1), .int .i64 (1 - L.slot), .slice a1 n c1] 86) := hg3.symm.trans (congrArg (fun C => h1.set r (.cells C 86)) (by kernel_rfl))
    rw [← hg4] at s3 k3
    have hr3 : h3 r = some (.cells #[.int .i64 (L.gen + 1), .int .i64 (1 - L.slot), .slice a1 n c1] 86) := by rw [hg4]; exact Hp.set_same _ _ _
    obtain ⟨q3, q4⟩ := s3.at b1 (by simp)
    have hw3 := hw.step s3 (by simp)
    have hd3 := hd.step s3 (by simp) (by simp)
    have hx3 := hx.step s3 (by simp) (by simp)
    refine ld_i q3 (by rw [Nat.zero_add]; exact b3.gen) ?_
    refine bIf_dec (fun hbig => ?_) (fun hbig => ?_)
    · refine comp_tail hw3 hd3 hx3 hτ hτd hne hwt hr3 hor k3 hl hdead ?_ (fun o' h' f1 f2 f3 => H o' h' f1 f2 (s3.no.trans f3))
      exact (decide_eq_true (Or.inl hbig)).symm
    refine ld_i hr3 rfl ?_
    refine ld_i hr3 rfl ?_
    refine ld_l hr3 rfl ?_
    refine ld_p q3 b3.disk ?_
    refine ld_i hr3 rfl ?_
    refine ld_p q3 b3.disk ?_
    refine bytes_ok (t := (0, 0)) hw3.sha k3 (by omega) ?_
    intro o5 h5 a5 c5 k5 s5
    refine asSl_i ?_
    have q5 := (s5.at q3 (by simp)).1
    obtain ⟨q6, q7⟩ := s5.at hr3 (by simp)
    refine ⟨by (repeat' apply And.intro) <;> first | exact same_at q3 q5 leaf29 (hsz _ (by omega)) | exact same_at hr3 q6 leaf3 rfl | exact same_at q3 q5 leaf3 (hsz _ (by show 0 + _ + 1 ≤ 7; omega)), ?_⟩
    refine size_ok (hd3.step s5 (by simp) (by simp)) ?_
    refine asIn_i ?_
    refine ⟨by (repeat' apply And.intro) <;> first | exact nm_len _ _ _ _ _ | exact same_at q3 q5 leaf29 (hsz _ (by omega)) | exact same_at q3 q5 leaf3 (hsz _ (by show 0 + _ + 1 ≤ 7; omega)), ?_⟩
    refine free_ok (hd3.step s5 (by simp) (by simp)) ?_
    refine asIn_i ?_
    refine ⟨by (repeat' apply And.intro) <;> first | exact nm_sub _ _ _ _ _ | exact nm_len _ _ _ _ _ | exact same_at q3 q5 leaf3 (hsz _ (by show 0 + _ + 1 ≤ 7; omega)), ?_⟩
    rw [wc]
    refine comp_tail (hw3.step s5 (by simp)) (hd3.step s5 (by simp) (by simp)) (hx3.step s5 (by simp) (by simp)) hτ hτd hne hwt q6 (q7.trans hor) (k3.step s5 (by simp)) hl hdead ?_ (fun o' h' f1 f2 f3 => H o' h' f1 f2 ((s3.trans s5).no.trans f3))
    congr 1
    exact propext ⟨fun hh => .inr hh, fun hh => hh.elim (fun h1 => absurd h1 hbig) id⟩
  · refine nw_to ?_
    intro r h2 hr hh2
    have s2 : Step (fun _ => False) o h (o.set r (1, 7)) h2 := by rw [hh2]; exact Step.new _ _ hr
    have hbr : h2 r = some (.cells #[.int .i64 0, .int .i64 0, .slice none 0 0] 86) := by rw [hh2]; exact Hp.set_same _ _ _
    have q1 := (s2.at b1 (by simp)).1
    refine ⟨by (repeat' apply And.intro) <;> first | exact nm_sub _ _ _ _ _ | exact nm_add _ _ _ _ _ | exact same_at b1 q1 leaf3 (hsz _ (by show 0 + _ + 1 ≤ 7; omega)), ?_⟩
    refine clone_ok (t := (0, 0)) (hb.step s2 (by simp)) (by omega) ?_
    intro o1 h1 a1 c1 k1 s1
    refine asSl_i ?_
    have q2 := (s1.at q1 (by simp)).1
    refine ⟨by (repeat' apply And.intro) <;> first | exact nm_sub _ _ _ _ _ | exact nm_add _ _ _ _ _ | exact same_at b1 q2 leaf3 (hsz _ (by show 0 + _ + 1 ≤ 7; omega)), ?_⟩
    obtain ⟨g1, g2⟩ := s1.at hbr (by simp)
    have hor : o1 r = (1, 7) := g2.trans (Own.set_same _ _ _)
    refine st_v g1 (Loose.zero _) rfl (by simp) ?_
    iterate 2 refine st_v (Hp.set_same _ _ _) (Loose.zero _) rfl (by simp) ?_
    simp only [Hp.set_set]
    rw [wg, ws]
    have sp : Step (fun t => t = (1, 7)) o1 h1 o1 (h1.set r (.cells #[.int .i64 (L.gen + 1), .int .i64 (1 - L.slot), .slice a1 n c1] 86)) := Step.put _ hor
    have s3 : Step (fun _ => False) o h o1 (h1.set r (.cells #[.int .i64 (L.gen + 1), .int .i64 (1 - L.slot), .slice a1 n c1] 86)) := (s2.trans s1).putNew _ hr
    have k3 : Rc o1 (h1.set r (.cells #[.int .i64 (L.gen + 1), .int .i64 (1 - L.slot), .slice a1 n c1] 86)) (0, 0) 1 a1 n c1 (text.map bc) := k1.read.step sp (by simp)
    generalize ho2 : o1 = o2 at *
    generalize hg3 : Hp.set h1 r _ = h3
    have hg4 : h3 = h1.set r (.cells #[.int .i64 (L.gen + 1), .int .i64 (1 - L.slot), .slice a1 n c1] 86) := hg3.symm.trans (congrArg (fun C => h1.set r (.cells C 86)) (by kernel_rfl))
    rw [← hg4] at s3 k3
    have hr3 : h3 r = some (.cells #[.int .i64 (L.gen + 1), .int .i64 (1 - L.slot), .slice a1 n c1] 86) := by rw [hg4]; exact Hp.set_same _ _ _
    obtain ⟨q3, q4⟩ := s3.at b1 (by simp)
    have hw3 := hw.step s3 (by simp)
    have hd3 := hd.step s3 (by simp) (by simp)
    have hx3 := hx.step s3 (by simp) (by simp)
    refine ld_i q3 (by rw [Nat.zero_add]; exact b3.gen) ?_
    refine bIf_dec (fun hbig => ?_) (fun hbig => ?_)
    · refine comp_tail hw3 hd3 hx3 hτ hτd hne hwt hr3 hor k3 hl hdead ?_ (fun o' h' f1 f2 f3 => H o' h' f1 f2 (s3.no.trans f3))
      exact (decide_eq_true (Or.inl hbig)).symm
    refine ld_i hr3 rfl ?_
    refine ld_i hr3 rfl ?_
    refine ld_l hr3 rfl ?_
    refine ld_p q3 b3.disk ?_
    refine ld_i hr3 rfl ?_
    refine ld_p q3 b3.disk ?_
    refine bytes_ok (t := (0, 0)) hw3.sha k3 (by omega) ?_
    intro o5 h5 a5 c5 k5 s5
    refine asSl_i ?_
    have q5 := (s5.at q3 (by simp)).1
    obtain ⟨q6, q7⟩ := s5.at hr3 (by simp)
    refine ⟨by (repeat' apply And.intro) <;> first | exact same_at q3 q5 leaf29 (hsz _ (by omega)) | exact same_at hr3 q6 leaf3 rfl | exact same_at q3 q5 leaf3 (hsz _ (by show 0 + _ + 1 ≤ 7; omega)), ?_⟩
    refine size_ok (hd3.step s5 (by simp) (by simp)) ?_
    refine asIn_i ?_
    refine ⟨by (repeat' apply And.intro) <;> first | exact nm_len _ _ _ _ _ | exact same_at q3 q5 leaf29 (hsz _ (by omega)) | exact same_at q3 q5 leaf3 (hsz _ (by show 0 + _ + 1 ≤ 7; omega)), ?_⟩
    refine free_ok (hd3.step s5 (by simp) (by simp)) ?_
    refine asIn_i ?_
    refine ⟨by (repeat' apply And.intro) <;> first | exact nm_sub _ _ _ _ _ | exact nm_len _ _ _ _ _ | exact same_at q3 q5 leaf3 (hsz _ (by show 0 + _ + 1 ≤ 7; omega)), ?_⟩
    rw [wc]
    refine comp_tail (hw3.step s5 (by simp)) (hd3.step s5 (by simp) (by simp)) (hx3.step s5 (by simp) (by simp)) hτ hτd hne hwt q6 (q7.trans hor) (k3.step s5 (by simp)) hl hdead ?_ (fun o' h' f1 f2 f3 => H o' h' f1 f2 ((s3.trans s5).no.trans f3))
    congr 1
    exact propext ⟨fun hh => .inr hh, fun hh => hh.elim (fun h1 => absurd h1 hbig) id⟩
end Go.Proofs.YtcolhmddhaabnaaDoor
set_option linter.unusedVariables false
set_option maxRecDepth 100000
namespace Go.Proofs.YtcolhmddhaabnaaDoor
open Go.H
/-! ### Open -/
def openD (c : ShaC) (D : DS) : DS × Option LS × Nat :=
  if D.gone = true then (D, none, 3)
  else if (loadL c D).fin = szD D 2 then (D, some (loadL c D), 0)
  else if (cutD D 2 (loadL c D).fin).2 ≠ 0 then ((cutD D 2 (loadL c D).fin).1, none, (cutD D 2 (loadL c D).fin).2)
  else if (syncD (cutD D 2 (loadL c D).fin).1).2 ≠ 0 then ((syncD (cutD D 2 (loadL c D).fin).1).1, none, (syncD (cutD D 2 (loadL c D).fin).1).2)
  else ((syncD (cutD D 2 (loadL c D).fin).1).1, some (loadL c D), 0)
theorem open_ok {o : Own} {h : Hp} {e : Errs} {lg : Value} {c : ShaC} {τ τd d : Nat} {D : DS} {K : Value → Hp → Prop} (hw : WEnv o h e lg c) (hd : DiskAt o h τd d D) (hτ : 2 ≤ τ) (hτd : 2 ≤ τd) (hne : τ ≠ τd) (hwt : D.waits.length < 1073740000)
    (H0 : ∀ r, (openD c D).2.1 = none → (openD c D).2.2 = r → r ≠ 0 → ∀ o' h', DiskAt o' h' τd d (openD c D).1 → Step (Two τ τd) o h o' h' → K (.tuple #[.pointer none, e.val r]) h')
    (H1 : ∀ L, (openD c D).2.1 = some L → (openD c D).2.2 = 0 → ∀ o' h' x, DiskAt o' h' τd d (openD c D).1 → LogAt o' h' τ d x L → h x = none → Step (Two τ τd) o h o' h' → K (.tuple #[.pointer (some ⟨x, 0, none⟩), .nilIface]) h') : Spec P 19 #[.pointer (some ⟨d, 0, none⟩)] h K := by
  have n00 : ¬ Two τ τd (0, 0) := by unfold Two; simp; omega
  have d00 : ¬ Of τd (0, 0) := by unfold Of; simp; omega
  have x00 : ¬ Of τ (0, 0) := by unfold Of; simp; omega
  have dx : ∀ k, ¬ Of τd (τ, k) := by intro k; unfold Of; simp; omega
  have xd : ∀ k, ¬ Of τ (τd, k) := by intro k; unfold Of; simp; omega
  have two1 : ∀ t, Of τ t → Two τ τd t := fun t h => .inl h
  have two2 : ∀ t, Of τd t → Two τ τd t := fun t h => .inr h
  unfold openD at H0 H1
  refine S19 ?_
  unfold V19
  refine nw_to ?_
  intro r h1 hr hh1
  have s1 : Step (fun _ => False) o h (o.set r (τ, 0)) h1 := by rw [hh1]; exact Step.new _ _ hr
  have hb1 : h1 r = some (.cells #[.pointer (some ⟨d, 0, none⟩), .int .i64 0, .int .i64 0, .slice none 0 0, .slice none 0 0, .int .i64 0, .bool false] 88) := by rw [hh1]; exact Hp.set_same _ _ _
  have hor : (o.set r (τ, 0)) r = (τ, 0) := Own.set_same _ _ _
  have hx1 : LogAt (o.set r (τ, 0)) h1 τ d r ⟨0, 0, [], [], 0, false⟩ :=
    ⟨_, _, hb1, hor, rfl, rfl, rfl, rfl, ⟨none, 0, 0, rfl, Rc.none⟩, ⟨none, 0, 0, rfl, [], Oc.nil _, rfl⟩, rfl, rfl, ⟨by simp, rfl, by simp, by simp, by simp, by simp⟩⟩
  have hd1 := hd.step s1 (by simp) (by simp)
  have hdok := hd.ok
  refine load_ok (hw.step s1 (by simp)) hd1 (s0 := 0) ⟨_, hx1, rfl, rfl, rfl, rfl, rfl⟩ hτ hτd hne ?_ ?_
  · intro hg o2 h2 s2
    rw [if_pos hg] at H0
    have s02 : Step (Two τ τd) o h o2 h2 := s1.no.trans (s2.mono two1)
    refine nl_err (hw.step s02 n00).errs.2.2 ?_
    refine bIf_t rfl ?_
    exact H0 3 rfl rfl (by omega) o2 h2 (hd1.step s2 x00 xd) s02
  · intro hg o2 h2 hx2 s2
    have s02 : Step (Two τ τd) o h o2 h2 := s1.no.trans (s2.mono two1)
    have hd2 := hd1.step s2 x00 xd
    have hng : ¬ D.gone = true := by rw [hg]; simp
    rw [if_neg hng] at H0 H1
    refine nl_nil ?_
    refine bIf_f rfl ?_
    obtain ⟨cs, E, b1, b2, b3⟩ := id hx2
    refine ld_i b1 b3.fin ?_
    refine size_ok hd2 ?_
    refine asIn_i ?_
    refine ⟨rfl, ?_⟩
    refine bIf_ite (fun heq => ?_) (fun heq => ?_)
    · have heq' : (loadL c D).fin = szD D 2 := by have q := heq; simp only [beq_iff_eq] at q; omega
      rw [if_pos heq'] at H1
      exact H1 _ rfl rfl o2 h2 r hd2 hx2 hr s02
    have heq' : ¬ (loadL c D).fin = szD D 2 := by have q := heq; simp only [beq_eq_false_iff_ne] at q; omega
    rw [if_neg heq'] at H0 H1
    refine ld_i b1 b3.fin ?_
    have hw2 := hw.step s02 n00
    have hcw := cut_waits D 2 (loadL c D).fin
    refine cut_ok hd2 hw2.errs hτd (by omega) ?_
    intro o3 h3 hd3 s3
    have s03 : Step (Two τ τd) o h o3 h3 := s02.trans (s3.mono two2)
    have hx3 := hx2.step s3 d00 dx
    generalize cutD D 2 (loadL c D).fin = R at *
    refine nl_val (hw.step s03 n00).errs ?_
    by_cases hr1 : R.2 ≠ 0
    · rw [if_pos hr1] at H0
      refine bIf_t (decide_eq_true hr1) ?_
      exact H0 _ rfl rfl hr1 o3 h3 hd3 s03
    rw [if_neg hr1] at H0 H1
    refine bIf_f (decide_eq_false hr1) ?_
    refine sync_ok hd3 (hw.step s03 n00).errs hτd ?_
    intro o4 h4 hd4 s4
    have s04 : Step (Two τ τd) o h o4 h4 := s03.trans (s4.mono two2)
    generalize syncD R.1 = R2 at *
    refine nl_val (hw.step s04 n00).errs ?_
    by_cases hr2 : R2.2 ≠ 0
    · rw [if_pos hr2] at H0
      refine bIf_t (decide_eq_true hr2) ?_
      exact H0 _ rfl rfl hr2 o4 h4 hd4 s04
    rw [if_neg hr2] at H1
    refine bIf_f (decide_eq_false hr2) ?_
    exact H1 _ rfl rfl o4 h4 r hd4 (hx3.step s4 d00 dx) hr s04
/-! ### Gen, Snapshot, Records, SameLists -/
theorem gen_ok {o : Own} {h : Hp} {τ d x : Nat} {L : LS} {K : Value → Hp → Prop} (hx : LogAt o h τ d x L) (H : K (.int .i64 L.gen) h) : Spec P 22 #[.pointer (some ⟨x, 0, none⟩)] h K := by
  obtain ⟨cs, E, b1, b2, b3⟩ := hx
  refine S22 ?_
  unfold V22
  exact ld_i b1 (by rw [Nat.zero_add]; exact b3.gen) H
theorem snapshot_ok {o : Own} {h : Hp} {τ d x : Nat} {L : LS} {t : Tag} {K : Value → Hp → Prop} (hx : LogAt o h τ d x L) (H : ∀ o' h' a n c, Rc o' h' t 1 a n c (L.text.map bc) → Step (fun _ => False) o h o' h' → K (.slice a n c) h') : Spec P 23 #[.pointer (some ⟨x, 0, none⟩)] h K := by
  obtain ⟨cs, E, b1, b2, b3⟩ := hx
  obtain ⟨a, n, c, t1, t2⟩ := b3.text
  refine S23 ?_
  unfold V23
  refine ld_l b1 (by rw [Nat.zero_add]; exact t1) ?_
  refine clone_ok (t := t) t2 (by have := b3.ok.text; omega) ?_
  intro o2 h2 a2 c2 k2 s2
  exact asSl_i (H o2 h2 a2 n c2 k2.read s2)
def RcI (o : Own) (h : Hp) (t : Tag) (a : Option Addr) (c : Nat) (l : List Bytes) (ns : List Nat) (y3 : Option Addr) (y3n y3c : Nat) (y9 : Option Addr) (y9n y9c : Nat) (y10 y11 : Int) (hh : Hp) : Prop :=
  ∃ (i : Nat) (o' : Own) (xs : List Value), ns = [l.length - i] ∧ i ≤ l.length ∧ Oc o' hh t 1 y3 y3n y3c xs ∧ RowsOf 1 (PartAt o' hh) (l.take i) xs ∧ y9 = a ∧ y9n = l.length ∧ y9c = c ∧ y10 = (l.length : Int) ∧ y11 = i ∧ Step (Only t) o h o' hh
theorem records_ok {o : Own} {h : Hp} {τ d x : Nat} {L : LS} {t : Tag} {K : Value → Hp → Prop} (hx : LogAt o h τ d x L) (ht : t ≠ (0, 0)) (ht2 : t ≠ (τ, 1))
    (H : ∀ o' h' a n c, PartsAt o' h' t a n c L.recs → Step (Only t) o h o' h' → K (.slice a n c) h') : Spec P 25 #[.pointer (some ⟨x, 0, none⟩)] h K := by
  obtain ⟨cs, E, b1, b2, b3⟩ := hx
  obtain ⟨a, n, c, t1, xs, t2, t3⟩ := b3.recs
  have hn : n = L.recs.length := t3.count t2.read (by omega)
  subst hn
  have hrl := b3.ok.recs
  have hp0 : PartsAt o h (τ, 1) a L.recs.length c L.recs := ⟨xs, t2.read, t3⟩
  refine S25 (RcI o h t a c L.recs) ?_ ?_
  · rintro k y3 y3n y3c y9 y9n y9c y10 y11 hh ⟨i, o', xs', hns, hi, hoc, hrow, rfl, rfl, rfl, rfl, rfl, st0⟩
    obtain rfl : k = L.recs.length - i := by simpa using hns
    have hcount : y3n = i := by have := hrow.count hoc.read (by omega); simpa [Nat.min_eq_left hi] using this
    unfold V25_58
    refine bIf_dec (fun hlt => ?_) (fun hge => ?_)
    · obtain ⟨p, hp⟩ : ∃ p, L.recs[i]? = some p := ⟨L.recs[i]'(by omega), by simp⟩
      have hpl := b3.ok.each p (List.mem_of_getElem? hp)
      obtain ⟨a', m', c', g1, g2⟩ := (hp0.step st0 (by unfold Only; exact fun q => ht q.symm) (by unfold Only; exact fun q => ht2 q.symm)).row hp
      have hm' := len_rc g1
      refine g2 _ ?_
      refine clone_ok (t := (0, 0)) g1 (by omega) ?_
      intro o3 h3 a3 c3 k3 s3
      refine asSl_i ?_
      refine nw_to ?_
      intro r h4 hr hh4
      have s4 : Step (fun _ => False) o3 h3 (o3.set r (1, 3)) h4 := by rw [hh4]; exact Step.new _ _ hr
      have hb4 : h4 r = some (.cells #[.slice a3 m' c3] 24) := by rw [hh4]; exact Hp.set_same _ _ _
      have hsrc : Rc (o3.set r (1, 3)) h4 (1, 3) 1 (some ⟨r, 0, none⟩) 1 1 [.slice a3 m' c3] := by
        refine ⟨rfl, Nat.le_refl _, .inr ⟨r, 0, _, _, _, rfl, Own.set_same _ _ _, hb4, ?_⟩⟩
        intro i v hi
        match i, hi with
        | 0, hi => cases hi; rfl
        | i + 1, hi => simp at hi
      refine append_own (t := t) elem44 (hoc.step (s3.trans s4) (by simp)) hsrc.src (by intro y hy; simp at hy; subst hy; rfl) (by omega) (by omega) ?_
      intro a5 c5 o5 h5 k5 s5 _
      refine asSl_i ?_
      have z1 : ¬ Only t (0, 0) := by unfold Only; exact fun q => ht q.symm
      have e : L.recs.take (i + 1) = L.recs.take i ++ [p] := by rw [List.take_add_one, hp]; rfl
      refine ⟨L.recs.length - (i + 1), by omega, i + 1, o5, _, rfl, by omega, k5, ?_, rfl, rfl, rfl, rfl, ?_, st0.trans ((s3.trans s4).no.trans s5)⟩
      · rw [e]
        exact (hrow.mono fun x cl _ hx => (hx.step (s3.trans s4) (by simp)).step s5 z1).append (RowsOf.one (PartAt.one ((k3.read.step s4 (by simp)).step s5 z1)) rfl)
      · rw [wrap_i64] <;> omega
    · obtain rfl : i = L.recs.length := by omega
      rw [List.take_length] at hrow
      exact H _ _ _ _ _ ⟨xs', hoc.read, hrow⟩ st0
  · unfold V25
    refine ld_l b1 (by rw [Nat.zero_add]; exact t1) ?_
    exact ⟨L.recs.length, 0, o, [], rfl, by omega, Oc.nil _, rfl, rfl, rfl, rfl, rfl, rfl, .refl _ _ _⟩
def SlI (h : Hp) (a : Option Addr) (c : Nat) (a' : Option Addr) (c' : Nat) (l l' : List Bytes) (ns : List Nat) (y0 : Option Addr) (y0n y0c : Nat) (y1 : Option Addr) (y1n y1c : Nat) (y12 y13 : Int) (hh : Hp) : Prop :=
  ∃ i : Nat, ns = [l.length - i] ∧ i ≤ l.length ∧ y0 = a ∧ y0n = l.length ∧ y0c = c ∧ y1 = a' ∧ y1n = l'.length ∧ y1c = c' ∧ y12 = (l.length : Int) ∧ y13 = i ∧ hh = h ∧ l.take i = l'.take i
theorem sameLists_ok {o : Own} {h : Hp} {t t' : Tag} {a a' : Option Addr} {n c n' c' : Nat} {l l' : List Bytes} {K : Value → Hp → Prop} (hx : PartsAt o h t a n c l) (hx' : PartsAt o h t' a' n' c' l') (hlen : l.length ≤ 1099511627776)
    (H : K (.bool (l == l')) h) : Spec P 24 #[.slice a n c, .slice a' n' c'] h K := by
  obtain rfl := hx.count
  obtain rfl := hx'.count
  by_cases hne : l.length = l'.length
  · refine S24 (SlI h a c a' c' l l') ?_ ?_
    · rintro k y0 y0n y0c y1 y1n y1c y12 y13 hh ⟨i, hns, hi, rfl, rfl, rfl, rfl, rfl, rfl, rfl, rfl, rfl, ht⟩
      obtain rfl : k = l.length - i := by simpa using hns
      unfold V24_58
      refine bIf_dec (fun hlt => ?_) (fun hge => ?_)
      · have h1 : i < l.length := by omega
        have h2 : i < l'.length := by omega
        obtain ⟨p, hp⟩ : ∃ p, l[i]? = some p := ⟨l[i], by simp [h1]⟩
        obtain ⟨p', hp'⟩ : ∃ p', l'[i]? = some p' := ⟨l'[i], by simp [h2]⟩
        obtain ⟨a1, m1, c1, g1, g2⟩ := hx.row hp
        obtain ⟨a2, m2, c2, g3, g4⟩ := hx'.row hp'
        refine g2 _ ?_
        refine str_ok bytes24 g1 ?_
        refine g4 _ ?_
        refine str_ok bytes24 g3 ?_
        rw [strEq_str]
        refine bIf_ite (fun hd => ?_) (fun hd => ?_)
        · have : (l == l') = false := by
            rw [beq_eq_false_iff_ne]
            rintro rfl
            rw [hp] at hp'
            cases hp'
            simp at hd
          rw [this] at H
          exact H
        · have he : p = p' := by simpa using hd
          subst he
          refine ⟨l.length - (i + 1), by omega, i + 1, rfl, h1, rfl, rfl, rfl, rfl, rfl, rfl, rfl, ?_, rfl, ?_⟩
          · rw [wrap_i64] <;> omega
          · rw [List.take_add_one, List.take_add_one, ht, hp, hp']
      · obtain rfl : i = l.length := by omega
        have : l = l' := by
          rw [List.take_length] at ht
          rw [ht, hne, List.take_length]
        subst this
        simpa using H
    · unfold V24
      refine bIf_f (by rw [hne]; simp) ?_
      exact ⟨l.length, 0, rfl, by omega, rfl, rfl, rfl, rfl, rfl, rfl, rfl, rfl, rfl, rfl⟩
  · refine S24 (fun _ _ _ _ _ _ _ _ _ _ => False) ?_ ?_
    · intro k y0 y0n y0c y1 y1n y1c y12 y13 hh hf
      exact hf.elim
    · unfold V24
      refine bIf_t (by simp; omega) ?_
      have : (l == l') = false := by
        rw [beq_eq_false_iff_ne]
        rintro rfl
        exact hne rfl
      rw [this] at H
      exact H
end Go.Proofs.YtcolhmddhaabnaaDoor
