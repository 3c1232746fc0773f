import Derived.Test.YtcolhmddhaabnaaDoorPw0
set_option linter.unusedVariables false
set_option maxRecDepth 100000
namespace Go.Proofs.YtcolhmddhaabnaaDoor
open Go.H
theorem mTwo {τ τd : Nat} (h1 : 2 ≤ τ) (h2 : 2 ≤ τd) : ∀ t, Two τ τd t → Mut t := by intro t ht e; subst e; unfold Two at ht; simp at ht; omega
theorem mOf {τ : Nat} (h1 : 2 ≤ τ) : ∀ t, Of τ t → Mut t := by intro t ht e; subst e; unfold Of at ht; simp at ht; omega
def PwI (o : Own) (h : Hp) (c : ShaC) (l : Option Addr) (lc : Nat) (bs : List Bct) (cr : Bct) : PwInv := fun ns y5 y7 y9 y10 y11 y11n y11c y12 y13 y13n y13c y48 y48n y48c y49 y50 hh =>
  ∃ (i d x rc : Nat) (o' : Own) (D : DS) (L : LS) (ca : Option Addr) (cn cc : Nat), ns = [bs.length - i] ∧ i ≤ bs.length ∧ y5 = ⟨rc, 0, none⟩ ∧ y7 = some ⟨d, 0, none⟩ ∧ y9 = some ⟨x, 0, none⟩ ∧ y10 = str L.text ∧ y12 = y10 ∧ y13 = y11 ∧ y13n = y11n ∧ y13c = y11c ∧
    y48 = l ∧ y48n = bs.length ∧ y48c = lc ∧ y49 = (bs.length : Int) ∧ y50 = i ∧ PartsAt o' hh (0, 0) y11 y11n y11c L.recs ∧ o' rc = (1, 0) ∧ hh rc = some (.cells #[.int .i64 cr.kind, .int .i64 cr.n, .int .i64 cr.torn, .int .u64 cr.scat, .slice ca cn cc] 51) ∧
    DiskAt o' hh 2 d D ∧ LogAt o' hh 3 d x L ∧ PG c D L ∧ (bs.length ≤ 40 ∧ ∀ y ∈ bs, y.bytes.length ≤ 200) ∧ Step Mut o h o' hh
theorem pg_either {c : ShaC} {D : DS} {L : LS} (h : PG c D L) (b : Bytes × List Bytes) : Either c D (L.text, L.recs) b := by
  intro k sc t
  have : (crashD D k sc t).seen = D.seen := by
    unfold crashD
    show crashL _ _ _ 0 D.waits D.sure = D.seen
    rw [h.base.waits, crashL_nil, h.base.sure]
  rw [this]
  exact .inl h.shows.read
theorem pow_err {o : Own} {h : Hp} {c : ShaC} {ad : Nat → Addr} {l : Option Addr} {lc : Nat} {bs : List Bct} {cr : Bct} {K : Value → Hp → Prop} {i d x rc : Nat} {o' : Own} {hh : Hp} {D D' : DS} {L L' : LS} {ca : Option Addr} {cn cc : Nat}
    {a a' : Option Addr} {n cp n' cp' : Nat} {on : Bytes} {onr : List Bytes} {r : Nat}
    (hN : NumEnv o' hh ad) (hc : ShaAt o' hh c) (hi : i < bs.length) (hp : PartsAt o' hh (0, 0) a n cp L.recs) (hp' : PartsAt o' hh (0, 0) a' n' cp' onr) (hor : o' rc = (1, 0)) (hrc : hh rc = some (.cells #[.int .i64 cr.kind, .int .i64 cr.n, .int .i64 cr.torn, .int .u64 cr.scat, .slice ca cn cc] 51))
    (hd : DiskAt o' hh 2 d D') (hx : LogAt o' hh 3 d x L') (hpg : PG c D L) (h200 : bs.length ≤ 40 ∧ ∀ y ∈ bs, y.bytes.length ≤ 200) (hw : D'.waits.length < 1073740000)
    (q0 : r = 0 → PG c D' L' ∧ L'.text = on ∧ L'.recs = onr) (q1 : r = 1 → Either c D' (L.text, L.recs) (on, onr)) (q2 : r ≠ 0 → r ≠ 1 → D' = D ∧ L' = L) (st0 : Step Mut o h o' hh)
    (H : ∀ o' h', Step Mut o h o' h' → K (.bool true) h') :
    V5_s2095719 (PwI o h c l lc bs cr) K (bs.length - i) ⟨rc, 0, none⟩ (some ⟨d, 0, none⟩) (some ⟨x, 0, none⟩) (str L.text) a n cp (str on) a' n' cp' (WV ⟨eV (ad 0), eV (ad 1), eV (ad 2)⟩ (eV (ad 4)) r) l bs.length lc (bs.length : Int) (i : Int) hh := by
  have hwr : IntKind.i64.wrap ((i : Int) + 1) = ((i + 1 : Nat) : Int) := by have := h200.1; rw [wrap_i64] <;> omega
  unfold V5_s2095719
  have bad : ∀ g, g < 28 → posN g + 1 ≠ 26 → Either c D' (L.text, L.recs) (on, onr) → WV ⟨eV (ad 0), eV (ad 1), eV (ad 2)⟩ (eV (ad 4)) r = eV (ad g) → V5_s2095719 (PwI o h c l lc bs cr) K (bs.length - i) ⟨rc, 0, none⟩ (some ⟨d, 0, none⟩) (some ⟨x, 0, none⟩) (str L.text) a n cp (str on) a' n' cp' (WV ⟨eV (ad 0), eV (ad 1), eV (ad 2)⟩ (eV (ad 4)) r) l bs.length lc (bs.length : Int) (i : Int) hh := by
    intro g hg hne hE hv
    rw [hv]
    unfold V5_s2095719
    refine num_ok hN hg ?_
    intro o2 h2 s2
    refine asIn_i ?_
    refine bIf_f (by simp; omega) ?_
    have hN2 := hN.step s2 (by simp)
    refine nl_err (hN2.err hg) ?_
    refine bIf_t rfl ?_
    obtain ⟨f1, f2⟩ := s2.at hrc (by simp)
    refine ld_i f1 rfl ?_
    refine ld_i f1 rfl ?_
    refine ld_i f1 rfl ?_
    refine crash_ok (hd.step s2 (by simp) (by simp)) (by omega) ?_
    intro o3 h3 hd3 s3
    have s03 : Step Mut o' hh o3 h3 := s2.no.trans (s3.mono (mOf (by omega)))
    have n00 : ¬ Of 2 (0, 0) := by unfold Of; simp
    have hN3 := hN2.step s3 n00
    have hc3 := (hc.step s2 (by simp)).step s3 n00
    obtain ⟨D4, L4, p1, p2⟩ := open_crash c D' cr.n cr.scat cr.torn
    refine open_ok (τ := 4) (hN3.wenv hc3) hd3 (by omega) (by omega) (by omega) (by simp [crashD]) (fun r q1 => by rw [p1] at q1; cases q1) ?_
    intro L5 hL _ o4 h4 y hd4 hy4 _ s4
    rw [p1] at hL
    cases hL
    have s04 : Step Mut o' hh o4 h4 := s03.trans (s4.mono (mTwo (by omega) (by omega)))
    refine asTu_i (xs := [_, _]) (unc_i (asPt_i (unc_i (nilL_i ?_))))
    refine nl_nil (bIf_f rfl ?_)
    have t00 : ¬ Two 4 2 (0, 0) := by unfold Two; simp
    refine pow_end (sn := L.text) (rn := L.recs) (on := on) (onr := onr) hy4 (((hp.step s2 (by simp) (by simp)).step s3 n00 n00).step s4 t00 t00) (((hp'.step s2 (by simp) (by simp)).step s3 n00 n00).step s4 t00 t00) ?_ (fun o' h' s => H o' h' ((st0.trans s04).trans s))
    rw [p2]
    exact hE _ _ _
  match r, q0, q1, q2, bad with
  | 0, q0, q1, q2, bad =>
    obtain ⟨e1, e2, e3⟩ := q0 rfl
    refine num_nil ?_
    refine asIn_i ?_
    refine bIf_f rfl ?_
    refine nl_nil (bIf_f rfl ?_)
    rw [hwr, ← e2]
    refine ⟨bs.length - (i + 1), by omega, i + 1, d, x, rc, o', D', L', ca, cn, cc, rfl, by omega, rfl, rfl, rfl, rfl, rfl, rfl, rfl, rfl, rfl, rfl, rfl, rfl, rfl, by rw [e3]; exact hp', hor, hrc, hd, hx, e1, h200, st0⟩
  | 1, q0, q1, q2, bad => exact bad 2 (by omega) (by decide) (q1 rfl) rfl
  | 2, q0, q1, q2, bad =>
    obtain ⟨e1, e2⟩ := q2 (by omega) (by omega)
    exact bad 4 (by omega) (by decide) (by rw [e1]; exact pg_either hpg _) rfl
  | r + 3, q0, q1, q2, bad =>
    obtain ⟨e1, e2⟩ := q2 (by omega) (by omega)
    subst e1 e2
    refine num_ok (g := 1) hN (by omega) ?_
    intro o2 h2 s2
    refine asIn_i ?_
    refine bIf_t (by decide) ?_
    obtain ⟨f1, f2⟩ := s2.at hrc (by simp)
    rw [hwr]
    exact ⟨bs.length - (i + 1), by omega, i + 1, d, x, rc, o2, D', L', ca, cn, cc, rfl, by omega, rfl, rfl, rfl, rfl, rfl, rfl, rfl, rfl, rfl, rfl, rfl, rfl, rfl, hp.step s2 (by simp) (by simp), f2.trans hor, f1, hd.step s2 (by simp) (by simp), hx.step s2 (by simp) (by simp), hpg, h200, st0.trans s2.no⟩
/-- A list of texts, and one more behind them, in a new row. -/
theorem app_one {o : Own} {h : Hp} {r : Nat} {a : Option Addr} {n c : Nat} {l : List Bytes} {xs ys : List Value} (H : Oc o h (6, 0) 1 a n c (xs ++ ys)) (h1 : RowsOf 1 (PartAt o h) l (xs ++ ys)) : PartsAt o h (6, 0) a n c l := ⟨_, H.read, h1⟩
end Go.Proofs.YtcolhmddhaabnaaDoor
