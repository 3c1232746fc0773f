import Derived.Test.YtcolhmddhaabnaaDoorLog
set_option linter.unusedVariables false
set_option maxRecDepth 100000
namespace Go.Proofs.YtcolhmddhaabnaaDoor
open Go.H
/-! ### Acts, as the law is given them -/
structure Bct where
  kind : Int
  n : Int
  torn : Int
  scat : Int
  bytes : Bytes
def BctAt (o : Own) (h : Hp) (x : Bct) (cl : List Value) : Prop :=
  ∃ a n c, cl = [.int .i64 x.kind, .int .i64 x.n, .int .i64 x.torn, .int .u64 x.scat, .slice a n c] ∧ Rc o h (0, 0) 1 a n c (x.bytes.map bc)
theorem BctAt.step {S : Tag → Prop} {o o' : Own} {h h' : Hp} {x : Bct} {cl : List Value} (H : BctAt o h x cl) (s : Step S o h o' h') (h0 : ¬ S (0, 0)) : BctAt o' h' x cl := by
  obtain ⟨a, n, c, e, h1⟩ := H
  exact ⟨a, n, c, e, h1.step s h0⟩
def BctsAt (o : Own) (h : Hp) (a : Option Addr) (n c : Nat) (l : List Bct) : Prop := ∃ xs, Rc o h (0, 0) 5 a n c xs ∧ RowsOf 5 (BctAt o h) l xs
theorem BctsAt.step {S : Tag → Prop} {o o' : Own} {h h' : Hp} {a : Option Addr} {n c : Nat} {l : List Bct} (H : BctsAt o h a n c l) (s : Step S o h o' h') (h0 : ¬ S (0, 0)) : BctsAt o' h' a n c l := by
  obtain ⟨xs, h1, h2⟩ := H
  exact ⟨xs, h1.step s h0, h2.mono fun x c _ hx => hx.step s h0⟩
theorem BctsAt.count {o : Own} {h : Hp} {a : Option Addr} {n c : Nat} {l : List Bct} (H : BctsAt o h a n c l) : n = l.length := by
  obtain ⟨xs, h1, h2⟩ := H
  exact h2.count h1 (by omega)
theorem elem45 : Elem P 45 51 5 56 := elem_of (by kernel_rfl)
/-- One act, read. -/
theorem BctsAt.row {o : Own} {h : Hp} {a : Option Addr} {n c i : Nat} {l : List Bct} {x : Bct} (H : BctsAt o h a n c l) (hi : l[i]? = some x) :
    ∃ b off cs E fr ba bn bcap, (∀ Q : Addr → Prop, Q ⟨b, off, none⟩ → ixA P 45 (.slice a n c) (.int .i64 (i : Int)) h Q) ∧ h b = some (.cells cs E fr) ∧ cs[off]? = some (.int .i64 x.kind) ∧ cs[off + 1]? = some (.int .i64 x.n) ∧ cs[off + 2]? = some (.int .i64 x.torn) ∧
      cs[off + 3]? = some (.int .u64 x.scat) ∧ cs[off + 4]? = some (.slice ba bn bcap) ∧ Rc o h (0, 0) 1 ba bn bcap (x.bytes.map bc) := by
  have hn := H.count
  obtain ⟨xs, h1, h2⟩ := H
  have hlt := (List.getElem?_eq_some_iff.1 hi).1
  obtain ⟨b, off, cs, E, fr, cl, e1, e2, e3, e4, ⟨ba, bn, bcap, rfl, e6⟩, e5⟩ := h1.row h2 hi (by omega)
  refine ⟨b, off + i * 5, cs, E, fr, ba, bn, bcap, ?_, e3, e5 0 _ rfl, e5 1 _ rfl, e5 2 _ rfl, e5 3 _ rfl, e5 4 _ rfl, e6⟩
  intro Q hQ
  rw [e1]
  exact ix_slice elem45 (by omega) (by omega) (by rw [Int.toNat_natCast]; exact hQ)

def LgJ (o : Own) (h : Hp) (a : Option Addr) (c : Nat) (l : List Bct) (ns : List Nat) (y8 : Option Addr) (y8n y8c : Nat) (y9 y10 : Int) (hh : Hp) : Prop :=
  ∃ (i : Nat) (o' : Own), ns = [l.length - i] ∧ i ≤ l.length ∧ y8 = a ∧ y8n = l.length ∧ y8c = c ∧ y9 = l.length ∧ y10 = i ∧ Step (fun _ => False) o h o' hh ∧ ∀ j x, j < i → l[j]? = some x → x.bytes.length ≤ 200
/-- bullalaw18.long -/
theorem long18_ok {o : Own} {h : Hp} {a : Option Addr} {n c : Nat} {l : List Bct} {K : Value → Hp → Prop} (hl : BctsAt o h a n c l)
    (H : ∀ o' h' b, (b = false → l.length ≤ 40 ∧ ∀ x ∈ l, x.bytes.length ≤ 200) → Step (fun _ => False) o h o' h' → K (.bool b) h') : Spec P 18 #[.slice a n c] h K := by
  obtain rfl := hl.count
  by_cases h40 : l.length > 40
  · refine S18 (fun _ _ _ _ _ _ _ => False) (fun _ _ _ _ _ _ _ hf => hf.elim) ?_
    unfold V18
    refine bIf_t (by simp; omega) (H o h true (by simp) (.refl _ _ _))
  · refine S18 (LgJ o h a c l) ?_ ?_
    · rintro n y8 y8n y8c y9 y10 hh ⟨i, o', hns, hi, rfl, rfl, rfl, rfl, rfl, st1, hshort⟩
      obtain rfl : n = l.length - i := by simpa using hns
      unfold V18_58
      refine bIf_dec (fun hlt => ?_) (fun hge => ?_)
      · obtain ⟨x, hx⟩ : ∃ x, l[i]? = some x := ⟨l[i]'(by omega), by simp⟩
        obtain ⟨b, off, cs, E, fr, ba, bn, bcap, g0, g1, g2, g3, g4, g5, g7, g8⟩ := (hl.step st1 (by simp)).row hx
        refine g0 _ ?_
        refine ld_i g1 g2 ?_
        refine ld_i g1 g3 ?_
        refine ld_i g1 g4 ?_
        refine ld_i g1 g5 ?_
        refine ld_l g1 g7 ?_
        refine nw_to ?_
        intro r h2 hr hh2
        have b2 : h2 r = some (.cells #[.int .i64 0, .int .i64 0, .int .i64 0, .int .u64 0, .slice none 0 0] 51) := by rw [hh2]; exact Hp.set_same _ _ _
        refine st_v b2 (Loose.zero _) rfl (by simp) ?_
        refine st_v (Hp.set_same _ _ _) (Loose.zero _) rfl (by simp) ?_
        refine st_v (Hp.set_same _ _ _) (Loose.zero _) rfl (by simp) ?_
        refine st_v (Hp.set_same _ _ _) (Loose.zero _) rfl (by simp) ?_
        refine st_v (Hp.set_same _ _ _) (Loose.zero _) rfl (by simp) ?_
        rw [Hp.set_set, Hp.set_set, Hp.set_set, Hp.set_set, hh2, Hp.set_set]
        have st2 : Step (fun _ => False) o h (o'.set r (1, 0)) _ := st1.trans (Step.new (.cells #[.int .i64 x.kind, .int .i64 x.n, .int .i64 x.torn, .int .u64 x.scat, .slice ba bn bcap] 51) (1, 0) hr)
        refine ld_l (Hp.set_same _ _ _) rfl ?_
        have hbn := len_rc g8
        refine bIf_dec (fun hlong => ?_) (fun hlong => ?_)
        · exact H _ _ true (by simp) st2
        · refine ⟨l.length - (i + 1), by omega, i + 1, _, rfl, by omega, rfl, rfl, rfl, rfl, ?_, st2, ?_⟩
          · rw [wrap_i64] <;> omega
          · intro j y hj hy
            by_cases hji : j < i
            · exact hshort j y hji hy
            · obtain rfl : j = i := by omega
              rw [hx] at hy
              cases hy
              omega
      · refine H _ _ false (fun _ => ⟨by omega, fun x hx => ?_⟩) st1
        obtain ⟨j, hj, hxj⟩ := List.getElem_of_mem hx
        exact hshort j x (by omega) (by simp [hj, hxj])
    · unfold V18
      refine bIf_f (by simp; omega) ?_
      exact ⟨l.length, 0, o, rfl, by omega, rfl, rfl, rfl, rfl, rfl, .refl _ _ _, fun j x hj => by omega⟩
theorem WEnv.own0 {o : Own} {h : Hp} {e : Errs} {lg : Value} {c : ShaC} (H : WEnv o h e lg c) : WEnv ownZ h e lg c :=
  ⟨⟨⟨rfl, H.errs.1.2⟩, ⟨rfl, H.errs.2.1.2⟩, ⟨rfl, H.errs.2.2.2⟩⟩, ⟨rfl, H.long.2⟩, H.sha.own0⟩
/-- An append that is answered. -/
theorem append_eq {c : ShaC} {D : DS} {L : LS} {t : Bytes} (h : Good c D L) (ht : t.length ≤ 16384) (hf : (20 : Int) + t.length ≤ freeD D) :
    appD c D L t = ({ D with sure := (fun k => if k = 2 then D.seen 2 ++ recB c L.gen L.recs.length t else D.seen k), waits := [], seen := (fun k => if k = 2 then D.seen 2 ++ recB c L.gen L.recs.length t else D.seen k) }, { L with recs := L.recs ++ [t], fin := L.fin + (20 + t.length) }, 0) := by
  have hs := h.shows
  have hsz : szD D 2 = (D.seen 2).length := by unfold szD; rw [if_pos (by omega)]; rfl
  have hlen := recB_len c L.gen L.recs.length t
  unfold appD
  rw [if_neg (by rw [hs.dead]; simp), if_neg (by omega), if_neg (by omega)]
  rw [ws_calm h.calm (by omega) ⟨by omega, by rw [hsz, hs.fin]; omega⟩ (by rw [hsz, hs.fin]; omega), if_neg (by simp)]
  have e2 : (2 : Int).toNat = 2 := rfl
  rw [e2, Int.toNat_natCast, doI_end _ _ _ _ hs.fin]
theorem crashL_nil (k : Nat) (sc torn : Int) (i : Nat) (m : Nat → Bytes) : crashL k sc torn i [] m = m := by unfold crashL; rfl
theorem crash_good {c : ShaC} {D : DS} {L : LS} {k sc torn : Int} (h : Good c D L) (hw : D.waits = []) (hs : D.sure = D.seen) : Good c (crashD D k sc torn) L := by
  unfold crashD
  rw [hw, crashL_nil, hs]
  exact ⟨⟨rfl, rfl⟩, h.shows, by simp⟩
theorem new_calm (r : Int) : Calm (newD r) := ⟨rfl, rfl⟩
theorem open_new (c : ShaC) (r : Int) : openD c (newD r) = (newD r, some (loadL c (newD r)), 0) ∧ Good c (newD r) (loadL c (newD r)) ∧ (loadL c (newD r)).recs = [] ∧ (loadL c (newD r)).text = [] := by
  have hnil : recsL c (picks c (newD r) 2).gen ((newD r).seen 2) 0 = [] := recsL_nil _ _ _
  have hfin : (loadL c (newD r)).fin = 0 := by unfold loadL; rw [hnil]; rfl
  have hg : Good c (newD r) (loadL c (newD r)) := ⟨new_calm r, loadL_shows c (newD r) (fun _ _ => rfl) (by rw [hfin]; rfl), by simp [newD]⟩
  refine ⟨open_again hg, hg, hnil, ?_⟩
  show (picks c (newD r) 2).text = []
  have gn : goodF c [] = none := by unfold goodF; rw [if_pos (by simp)]
  have e1 : picks c (newD r) 1 = L0 := by show pickS c L0 (0 : Nat) [] = _; unfold pickS; rw [gn]
  have e2 : picks c (newD r) 2 = L0 := by show pickS c (picks c (newD r) 1) (1 : Nat) [] = _; rw [e1]; unfold pickS; rw [gn]
  rw [e2]; rfl
theorem alive18_ok {o : Own} {h : Hp} {e : Errs} {lg : Value} {c : ShaC} {K : Value → Hp → Prop} (hw : WEnv o h e lg c) (H : ∀ o' h', Step (fun _ => False) o h o' h' → K (.bool true) h') : Spec P 17 #[] h K := by
  have hw0 := hw.own0
  have m00 : ∀ {S : Tag → Prop}, (∀ t, S t → Mut t) → ¬ S (0, 0) := fun hS h => hS _ h rfl
  have mT : ∀ τ τd, 2 ≤ τ → 2 ≤ τd → ∀ t, Two τ τd t → Mut t := by intro τ τd h1 h2 t ht e; subst e; unfold Two at ht; simp at ht; omega
  have mO : ∀ τ, 2 ≤ τ → ∀ t, Of τ t → Mut t := by intro τ h1 t ht e; subst e; unfold Of at ht; simp at ht; omega
  obtain ⟨p1, p2, p3, _⟩ := open_new c 200
  have hfr0 : freeD (newD 200) = 200 := by simp [freeD, newD]
  refine S17 ?_
  unfold V17
  refine new_ok (τ := 2) hw0.errs (fun hb => by omega) (fun _ o1 h1 d hd hd1 st1 => ?_)
  refine asTu_i (unc_i (asPt_i (unc_i (nilL_i ?_))))
  refine nl_nil (bIf_f rfl ?_)
  unfold V17_s14
  refine bIf_f rfl ?_
  unfold V17_s7
  have s1 : Step Mut ownZ h o1 h1 := st1.no
  refine open_ok (τ := 3) (hw0.step s1 (fun q => q rfl)) hd1 (by omega) (by omega) (by omega) (by simp [newD]) (fun r q1 => by rw [p1] at q1; cases q1) ?_
  intro L hL _ o2 h2 x hd2 hx2 _ s2
  rw [p1] at hL hd2
  cases hL
  have s12 := s1.trans (s2.mono (mT 3 2 (by omega) (by omega)))
  refine asTu_i (xs := [_, _]) (unc_i (asPt_i (unc_i (nilL_i ?_))))
  refine nl_nil (bIf_f rfl ?_)
  refine bIf_f rfl ?_
  refine lit_ok o2 (1, 0) bytes24 (l := [97]) rfl rfl ?_
  intro o3 h3 r3 _ k3 s3
  have hok : (loadL c (newD 200)).Ok := by obtain ⟨_, _, _, _, q⟩ := hx2; exact q.ok
  have a1 := append_eq (t := [97]) p2 (by simp) (by rw [hfr0]; simp)
  have g1 := (append_good (t := [97]) p2 hok).1
  have s13 := s12.trans s3.no
  refine append_ok (hw0.step s13 (fun q => q rfl)) (hd2.step s3 (by simp) (by simp)) (hx2.step s3 (by simp) (by simp)) (by omega) (by omega) (by omega) (by simp [newD]) k3.read (by simp) (by simp) (by simp) ?_
  intro o4 h4 hd4 hx4 s4
  have s14 := s13.trans (s4.mono (mT 3 2 (by omega) (by omega)))
  rw [a1] at hd4 hx4 g1 ⊢
  have hok4 := (show LS.Ok _ from by obtain ⟨_, _, _, _, q⟩ := hx4; exact q.ok)
  dsimp only at hd4 hx4 g1 hok4 ⊢
  rw [p3] at *
  generalize hL4 : ({ loadL c (newD 200) with recs := [] ++ [[97]], fin := (loadL c (newD 200)).fin + (20 + [97].length) } : LS) = L4 at *
  generalize hD4 : ({ newD 200 with sure := _, waits := [], seen := _ } : DS) = D4 at *
  refine nl_nil (bIf_f rfl ?_)
  refine lit_ok o4 (1, 0) bytes24 (l := [98]) rfl rfl ?_
  intro o5 h5 r5 _ k5 s5
  have s15 := s14.trans s5.no
  have hfr4 : freeD D4 = 179 := by rw [← hD4]; simp [freeD, newD, recB_len]
  have hw4 : D4.waits = [] := by rw [← hD4]
  have hr4 : L4.recs = [[97]] := by rw [← hL4]; rfl
  have a2 := append_eq (t := [98]) g1 (by simp) (by rw [hfr4]; simp)
  have g2 := append_good (t := [98]) g1 hok4
  refine append_ok (hw0.step s15 (fun q => q rfl)) (hd4.step s5 (by simp) (by simp)) (hx4.step s5 (by simp) (by simp)) (by omega) (by omega) (by omega) (by simp [hw4]) k5.read (by simp) (by simp) (by simp) ?_
  intro o6 h6 hd6 hx6 s6
  have s16 := s15.trans (s6.mono (mT 3 2 (by omega) (by omega)))
  have z : (appD c D4 L4 [98]).2.2 = 0 := by rw [a2]
  have z2 := g2.2.2.1 z
  have g3 := crash_good (k := 0) (sc := 0) (torn := 0) g2.1 z2.1 z2.2.1
  rw [z]
  have hrec : (appD c D4 L4 [98]).2.1.recs = [[97], [98]] := by rw [z2.2.2.1, hr4]; rfl
  generalize (appD c D4 L4 [98]).1 = D6 at *
  generalize (appD c D4 L4 [98]).2.1 = L6 at *
  refine nl_nil ?_
  unfold V17_s62
  refine bIf_f rfl ?_
  unfold V17_s31
  refine crash_ok hd6 (by omega) ?_
  intro o7 h7 hd7 s7
  have s17 := s16.trans (s7.mono (mO 2 (by omega)))
  have p6 := open_again g3
  have hw7 : (crashD D6 0 0 0).waits.length < 1073740000 := by simp [crashD]
  refine open_ok (τ := 4) (hw0.step s17 (fun q => q rfl)) hd7 (by omega) (by omega) (by omega) hw7 (fun r q1 => by rw [p6] at q1; cases q1) ?_
  intro L hL _ o8 h8 y hd8 hy8 _ s8
  rw [p6] at hL
  cases hL
  have s18 := s17.trans (s8.mono (mT 4 2 (by omega) (by omega)))
  refine asTu_i (xs := [_, _]) (unc_i (asPt_i (unc_i (nilL_i ?_))))
  refine nle_nil (bIf_t rfl ?_)
  refine records_ok (t := (5, 0)) hy8 (by simp) (by simp) ?_
  intro o9 h9 a9 n9 c9 k9 s9
  refine asSl_i ?_
  have hn9 := k9.count
  rw [hrec] at hn9
  simp only [List.length_cons, List.length_nil, Nat.zero_add, Nat.reduceAdd] at hn9
  subst hn9
  refine bIf_t rfl ?_
  refine records_ok (t := (5, 1)) (hy8.step s9 (by unfold Only; simp) (by unfold Only; simp)) (by simp) (by simp) ?_
  intro o10 h10 a10 n10 c10 k10 s10
  refine asSl_i ?_
  obtain ⟨a', m', c', e1, e2⟩ := k10.row (i := 1) (p := [98]) (by rw [hrec]; rfl)
  refine e2 _ ?_
  refine str_ok bytes24 e1 ?_
  have sf := (s18.trans (s9.mono (S' := Mut) (by rintro _ rfl; unfold Mut; simp))).trans (s10.mono (S' := Mut) (by rintro _ rfl; unfold Mut; simp))
  have es : strEq (str [98]) { data := #[98] } = true := by
    show strEq (str [98]) (str [98]) = true
    rw [strEq_str]; rfl
  rw [es]
  exact H _ _ (sf.join (o := o) (fun t => t))
end Go.Proofs.YtcolhmddhaabnaaDoor
