/- Fused sums of products by whole numbers of units: what the laws of layer 9 say of them, as plain numbers. -/
import Derived.Test.YtdbfkfbncmbfcaaGreatDoorFusS
namespace Go.Proofs.YtdbfkfbncmbfcaaGreatDoor
set_option linter.unusedVariables false
set_option linter.unusedSimpArgs false

/-- a summand: its exact value in units of 2^-5000 -/
structure Qt where
  nan : Bool
  sig : Bool
  inv : Bool
  inf : Bool
  neg : Bool
  z : Int

def fuseZ (F : Fm) (m : Nat) (x y : Qt) : Nat × Nat :=
  if x.sig || y.sig || x.inv || y.inv then (F.nan, 1)
  else if x.nan || y.nan then (F.nan, 0)
  else if x.inf && y.inf && (x.neg != y.neg) then (F.nan, 1)
  else if x.inf then (F.inf + F.sg x.neg, 0)
  else if y.inf then (F.inf + F.sg y.neg, 0)
  else if x.z + y.z = 0 then (F.sg (if decide (x.z = 0) && decide (y.z = 0) && (x.neg == y.neg) then x.neg else m == 4), 0)
  else rndZ F m (x.z + y.z) (-5000)

def Pt.q (x : Pt) : Qt := ⟨x.nan, x.sig, x.inv, x.inf, x.neg, x.d.i (-5000)⟩

theorem i_zero_iff {d : D} {L : Int} : d.i L = 0 ↔ d.n = 0 := by
  constructor
  · intro h
    have h2 := i_natAbs d L
    rw [h] at h2
    have := pow_pos2 (d.e - L).toNat
    rcases Nat.eq_zero_or_pos d.n with h3 | h3
    · exact h3
    · have := Nat.mul_pos h3 this
      simp at h2; omega
  · intro h; exact i_of_zero h L

theorem into_rndZ {F : Fm} (m : Nat) (s : D) (L : Int) (h0 : s.n ≠ 0) (hL : L ≤ s.e) : intoS F m s.s s.n s.e false = rndZ F m (s.i L) L := by
  have h1 := i_scale s L s.e hL (Int.le_refl _)
  have h2 : s.i s.e = if s.s then -(s.n : Int) else (s.n : Int) := by unfold D.i; simp
  have h3 : s.i s.e ≠ 0 := fun h => h0 (i_zero_iff.1 h)
  rw [h1, rndZ_scale m _ s.e L h3 hL, h2, rndZ_mk m s.s s.n s.e h0]

theorem fuse_q {F : Fm} (m : Nat) {x y : Pt} (hx : Sm x.d) (hy : Sm y.d) : fuseS F m x y = fuseZ F m x.q y.q := by
  obtain ⟨s, hs, hc, hlo, hi⟩ := addD_sm hx hy
  have e1 : sumP x y = s := by unfold sumP; rw [hs]
  unfold fuseS fuseZ Pt.q
  simp only
  rw [e1, ← hi]
  by_cases h0 : s.n = 0
  · rw [if_pos h0, if_pos (i_zero_iff.2 h0)]
    simp only [i_zero_iff]
  · rw [if_neg h0, if_neg (fun h => h0 (i_zero_iff.1 h)), into_rndZ m s (-5000) h0 hlo]

def oneZ (F : Fm) (a : Nat) : Qt := ⟨F.isNan a, F.isSig a, false, F.isInf a, F.neg a, if F.isNan a || F.isInf a then 0 else F.val (-5000) a⟩
def prodZ (F : Fm) (a b : Nat) : Qt := ⟨F.isNan a || F.isNan b, F.isSig a || F.isSig b, !F.isNan a && !F.isNan b && ((F.isInf a && F.isZero b) || (F.isInf b && F.isZero a)), !F.isNan a && !F.isNan b && (F.isInf a || F.isInf b), F.neg a != F.neg b,
  if F.isNan a || F.isNan b || F.isInf a || F.isInf b then 0 else F.val (-2500) a * F.val (-2500) b⟩

section
variable {F : Fm}

theorem val_zero_iff (ok : F.Ok) {a : Nat} (L : Int) : F.val L a = 0 ↔ F.abs a = 0 := by
  have hp : 1 ≤ F.p := by have := ok.p8; omega
  constructor
  · intro h
    rcases Nat.eq_zero_or_pos (F.abs a) with h2 | h2
    · exact h2
    · exact absurd h (val_neg hp L (by omega)).2.2
  · exact val_zero L

theorem valD_zero_iff (ok : F.Ok) {a : Nat} (h : F.abs a < F.inf) : (valD F a).n = 0 ↔ F.abs a = 0 := by
  rw [← i_zero_iff (L := -5000), i_of_val ok h _ (by decide), val_zero_iff ok]

theorem q_single (ok : F.Ok) (a : Nat) : (singleP F a).q = oneZ F a := by
  unfold Pt.q singleP oneZ
  simp only
  cases h1 : F.isNan a
  · cases h2 : F.isInf a
    · simp only [Bool.or_self, Bool.false_eq_true, if_false]
      rw [i_of_val ok (fin_of h1 h2) _ (by decide)]
    · simp [D.i_zero]
  · simp [D.i_zero]

theorem inf_not_zero (ok : F.Ok) {a : Nat} (h : F.isInf a = true) : F.isZero a = false ∧ F.isNan a = false := by
  have := inf_pos ok
  unfold Fm.isInf at h
  unfold Fm.isZero Fm.isNan
  simp at h ⊢
  omega

theorem q_times (ok : F.Ok) (a b : Nat) : (timesP (singleP F a) (singleP F b)).q = prodZ F a b := by
  have fld : ∀ x, (singleP F x).nan = F.isNan x ∧ (singleP F x).sig = F.isSig x ∧ (singleP F x).inf = F.isInf x ∧ (singleP F x).neg = F.neg x := fun x => ⟨rfl, rfl, rfl, rfl⟩
  cases h1 : F.isNan a
  · cases h3 : F.isNan b
    · have hz : ∀ x, F.isNan x = false → F.isInf x = false → decide ((singleP F x).d.n = 0) = F.isZero x := by
        intro x hx1 hx2
        have e : (singleP F x).d = valD F x := by unfold singleP; simp [hx1, hx2]
        rw [e]
        unfold Fm.isZero
        congr 1
        exact propext (valD_zero_iff ok (fin_of hx1 hx2))
      cases h2 : F.isInf a
      · cases h4 : F.isInf b
        · have hd := times_d ok a b h1 h2 h3 h4
          have hm := prod_eq ok (fin_of h1 h2) (fin_of h3 h4)
          have e0 : ∀ x, F.isNan x = false → F.isInf x = false → (singleP F x).d = valD F x := by intro x hx1 hx2; unfold singleP; simp [hx1, hx2]
          rw [e0 a h1 h2, e0 b h3 h4, hm] at hd
          have hd := (Prod.mk.inj hd).1
          unfold Pt.q
          rw [← hd, prod_i ok (fin_of h1 h2) (fin_of h3 h4)]
          unfold timesP prodZ
          simp [fld, h1, h2, h3, h4]
        · have z2 := inf_not_zero ok h4
          unfold Pt.q timesP prodZ
          simp [fld, h1, h2, h3, h4, hz a h1 h2, D.i_zero]
      · have z2 := inf_not_zero ok h2
        cases h4 : F.isInf b
        · unfold Pt.q timesP prodZ
          simp [fld, h1, h2, h3, h4, hz b h3 h4, D.i_zero, z2]
        · have z4 := inf_not_zero ok h4
          unfold Pt.q timesP prodZ
          simp [fld, h1, h2, h3, h4, D.i_zero, z2, z4]
    · unfold Pt.q timesP prodZ
      simp [fld, h1, h3, D.i_zero]
  · unfold Pt.q timesP prodZ
    simp [fld, h1, D.i_zero]

theorem fma_z (ok : F.Ok) (m a b c : Nat) : fuseS F m (timesP (singleP F a) (singleP F b)) (singleP F c) = fuseZ F m (prodZ F a b) (oneZ F c) := by
  rw [fuse_q m (times_ps ok a b).sm (single_ps ok c).sm, q_times ok, q_single ok]
theorem dot_z (ok : F.Ok) (m a b c d : Nat) : fuseS F m (timesP (singleP F a) (singleP F b)) (timesP (singleP F c) (singleP F d)) = fuseZ F m (prodZ F a b) (prodZ F c d) := by
  rw [fuse_q m (times_ps ok a b).sm (times_ps ok c d).sm, q_times ok, q_times ok]

theorem prodZ_comm (a b : Nat) : prodZ F a b = prodZ F b a := by
  unfold prodZ
  rw [Int.mul_comm (F.val (-2500) a)]
  cases F.isNan a <;> cases F.isNan b <;> cases F.isInf a <;> cases F.isInf b <;> cases F.isZero a <;> cases F.isZero b <;> cases F.isSig a <;> cases F.isSig b <;> cases F.neg a <;> cases F.neg b <;> rfl

theorem fuseZ_comm (m : Nat) (x y : Qt) : fuseZ F m x y = fuseZ F m y x := by
  obtain ⟨n1, s1, v1, i1, g1, z1⟩ := x
  obtain ⟨n2, s2, v2, i2, g2, z2⟩ := y
  unfold fuseZ
  simp only
  rw [Int.add_comm z1 z2]
  cases s1 <;> cases s2 <;> cases v1 <;> cases v2 <;> simp only [Bool.or_self, Bool.or_true, Bool.true_or, Bool.or_false, Bool.false_or, if_true, if_false, Bool.false_eq_true]
  cases n1 <;> cases n2 <;> simp only [Bool.or_self, Bool.or_true, Bool.true_or, Bool.or_false, Bool.false_or, if_true, if_false, Bool.false_eq_true]
  rw [Bool.and_comm (decide (z2 = 0)) (decide (z1 = 0))]
  generalize (decide (z1 = 0) && decide (z2 = 0)) = zz
  cases i1 <;> cases i2 <;> cases g1 <;> cases g2 <;> cases zz <;> rfl

/-- the opposite -/
def Qt.opp (x : Qt) : Qt := { x with neg := !x.neg, z := -x.z }

theorem opp_opp (x : Qt) : x.opp.opp = x := by
  obtain ⟨n1, s1, v1, i1, g1, z1⟩ := x
  unfold Qt.opp
  simp

theorem val_flip (L : Int) (a : Nat) : F.val L (F.flip a) = -F.val L a := by
  unfold Fm.val
  rw [abs_flip, neg_flip]
  cases F.neg a <;> simp

theorem flip_flip (ok : F.Ok) {a : Nat} (h : a < 2 ^ F.w) : F.flip (F.flip a) = a := by
  conv => lhs; rw [Fm.flip]
  rw [abs_flip, neg_flip, Bool.not_not]
  exact (parts_mk ok h).symm

theorem oneZ_flip (a : Nat) : oneZ F (F.flip a) = (oneZ F a).opp := by
  unfold oneZ Qt.opp
  simp only [isNan_flip, isSig_flip, isInf_flip, neg_flip, val_flip]
  split <;> simp

theorem prodZ_flip (a b : Nat) : prodZ F (F.flip a) b = (prodZ F a b).opp := by
  unfold prodZ Qt.opp
  simp only [isNan_flip, isSig_flip, isInf_flip, isZero_flip, neg_flip, val_flip, Int.neg_mul]
  congr 1
  · cases F.neg a <;> cases F.neg b <;> rfl
  · split <;> simp

theorem prodZ_flip2 (a b : Nat) : prodZ F a (F.flip b) = (prodZ F a b).opp := by
  rw [prodZ_comm, prodZ_flip, prodZ_comm]

theorem rndZ_mir (ok : F.Ok) (m : Nat) (z L : Int) (h : z ≠ 0) : rndZ F (mir m) (-z) L = (F.flip (rndZ F m z L).1, (rndZ F m z L).2) := by
  unfold rndZ
  rw [← into_mir ok m _ _ _ _ (by omega), Int.natAbs_neg]
  congr 1
  rw [← decide_not]
  congr 1
  exact propext (by omega)

theorem rndZ_fin (ok : F.Ok) (m : Nat) (z L : Int) (h : z ≠ 0) : F.isNan (rndZ F m z L).1 = false := by
  unfold rndZ
  rw [into_bits F ok m _ _ _ _ (by omega)]
  have h2 := mag_le F ok m (decide (z < 0)) z.natAbs L false (by omega)
  unfold Fm.isNan
  rw [abs_mk (Nat.lt_of_le_of_lt h2 (inf_lt ok))]
  simp; exact h2

/-- the place in the order of numbers -/
def rankZ (F : Fm) (a : Nat) : Int := sI (F.neg a) (F.abs a)

theorem rank_flip (a : Nat) : rankZ F (F.flip a) = -rankZ F a := by
  unfold rankZ sI
  rw [neg_flip, abs_flip]
  cases F.neg a <;> simp

theorem rank_sg (s : Bool) : rankZ F (F.sg s) = 0 ∧ F.isNan (F.sg s) = false := by
  obtain ⟨h1, h2⟩ := zero_sg (F := F) s
  unfold rankZ sI Fm.isNan
  rw [h1, h2]
  cases s <;> simp

theorem rank_inf (ok : F.Ok) (s : Bool) : F.isNan (F.inf + F.sg s) = false ∧ F.inf + F.sg (!s) = F.flip (F.inf + F.sg s) := by
  refine ⟨?_, (flip_mk (inf_lt ok)).symm⟩
  unfold Fm.isNan
  rw [abs_mk (inf_lt ok)]
  simp

/-- of opposite summands the opposite, in the mode that rounds the other way -/
theorem fuseZ_mir (ok : F.Ok) (m : Nat) (x y : Qt) : (fuseZ F (mir m) x.opp y.opp).2 = (fuseZ F m x y).2 ∧ F.isNan (fuseZ F (mir m) x.opp y.opp).1 = F.isNan (fuseZ F m x y).1 ∧
    (F.isNan (fuseZ F m x y).1 = false → rankZ F (fuseZ F m x y).1 = -rankZ F (fuseZ F (mir m) x.opp y.opp).1) := by
  obtain ⟨n1, s1, v1, i1, g1, z1⟩ := x
  obtain ⟨n2, s2, v2, i2, g2, z2⟩ := y
  have hn := nan_isNan ok
  unfold fuseZ Qt.opp
  simp only
  by_cases c1 : (s1 || s2 || v1 || v2) = true
  · simp only [if_pos c1]; simp [hn]
  simp only [if_neg c1]
  by_cases c2 : (n1 || n2) = true
  · simp only [if_pos c2]; simp [hn]
  simp only [if_neg c2]
  rw [show ((!g1) != (!g2)) = (g1 != g2) by cases g1 <;> cases g2 <;> rfl]
  by_cases c3 : (i1 && i2 && (g1 != g2)) = true
  · simp only [if_pos c3]; simp [hn]
  simp only [if_neg c3]
  have ri := fun s => rank_inf ok s
  by_cases c4 : i1 = true
  · simp only [if_pos c4]
    rw [(ri g1).2, isNan_flip, rank_flip]
    simp
  simp only [if_neg c4]
  by_cases c5 : i2 = true
  · simp only [if_pos c5]
    rw [(ri g2).2, isNan_flip, rank_flip]
    simp
  simp only [if_neg c5]
  by_cases c6 : z1 + z2 = 0
  · rw [if_pos c6, if_pos (by omega : -z1 + -z2 = 0)]
    simp only [(rank_sg (F := F) _).1, (rank_sg (F := F) _).2]
    simp
  · rw [if_neg c6, if_neg (by omega : ¬ -z1 + -z2 = 0), show -z1 + -z2 = -(z1 + z2) by omega, rndZ_mir ok m _ _ c6]
    simp only [isNan_flip, rank_flip]
    simp

/-- of numbers -/
theorem fuseZ_fin (m : Nat) {x y : Qt} (hx : x.sig = false ∧ x.inv = false ∧ x.nan = false ∧ x.inf = false) (hy : y.sig = false ∧ y.inv = false ∧ y.nan = false ∧ y.inf = false) :
    fuseZ F m x y = if x.z + y.z = 0 then (F.sg (if decide (x.z = 0) && decide (y.z = 0) && (x.neg == y.neg) then x.neg else m == 4), 0) else rndZ F m (x.z + y.z) (-5000) := by
  unfold fuseZ
  simp [hx, hy]

theorem rank_rnd (ok : F.Ok) (m : Nat) (z L : Int) (h : z ≠ 0) : rankZ F (rndZ F m z L).1 = sI (decide (z < 0)) (magS F m (decide (z < 0)) z.natAbs L false) := by
  unfold rndZ rankZ
  obtain ⟨h1, h2⟩ := cut_lt ok m (decide (z < 0)) z.natAbs L false (by omega)
  rw [h1, neg_mk h2, abs_mk h2]

/-- all modes lie between Down and Up -/
theorem modes_fin (ok : F.Ok) {x y : Qt} (hx : x.sig = false ∧ x.inv = false ∧ x.nan = false ∧ x.inf = false) (hy : y.sig = false ∧ y.inv = false ∧ y.nan = false ∧ y.inf = false) (m : Nat) :
    F.isNan (fuseZ F m x y).1 = false ∧ rankZ F (fuseZ F 4 x y).1 ≤ rankZ F (fuseZ F m x y).1 ∧ rankZ F (fuseZ F m x y).1 ≤ rankZ F (fuseZ F 3 x y).1 ∧
    ((fuseZ F m x y).2 = 0 ↔ (fuseZ F 4 x y).2 = 0) ∧
    rankZ F (fuseZ F 3 x y).1 - rankZ F (fuseZ F 4 x y).1 = (if (fuseZ F 4 x y).2 = 0 then 0 else 1) ∧
    ((fuseZ F m x y).2 = 0 ∨ (fuseZ F m x y).2 = 16 ∨ (fuseZ F m x y).2 = 20 ∨ (fuseZ F m x y).2 = 24) := by
  rw [fuseZ_fin m hx hy, fuseZ_fin 3 hx hy, fuseZ_fin 4 hx hy]
  generalize x.z + y.z = z
  by_cases h0 : z = 0
  · simp only [if_pos h0, (rank_sg (F := F) _).1, (rank_sg (F := F) _).2]
    simp
  simp only [if_neg h0]
  have hn : z.natAbs ≠ 0 := by omega
  refine ⟨rndZ_fin ok m z _ h0, ?_⟩
  rw [rank_rnd ok m z _ h0, rank_rnd ok 3 z _ h0, rank_rnd ok 4 z _ h0]
  unfold rndZ
  have f1 := flag_exact ok m (decide (z < 0)) z.natAbs (-5000) hn
  have f4 := flag_exact ok 4 (decide (z < 0)) z.natAbs (-5000) hn
  have hfl := into_flags F m (decide (z < 0)) z.natAbs (-5000) false
  have hb := mag_between ok m (decide (z < 0)) z.natAbs (-5000) hn
  rw [mag_down ok _ _ _ hn, mag_up ok _ _ _ hn]
  generalize (intoS F m (decide (z < 0)) z.natAbs (-5000) false).2 = g at *
  generalize (intoS F 4 (decide (z < 0)) z.natAbs (-5000) false).2 = g4 at *
  generalize magS F m (decide (z < 0)) z.natAbs (-5000) false = c at *
  generalize botS F z.natAbs (-5000) = b at *
  generalize exB F z.natAbs (-5000) = t at *
  generalize decide (z < 0) = s at *
  refine ⟨?_, ?_, ?_, ?_, hfl⟩
  · cases s <;> cases t <;> simp [sI] at * <;> omega
  · cases s <;> cases t <;> simp [sI] at * <;> omega
  · rw [f1, f4]
  · cases t
    · have : g4 ≠ 0 := fun h => by have := f4.1 h; cases this
      rw [if_neg this]
      cases s <;> simp [sI] <;> omega
    · rw [if_pos (f4.2 rfl)]
      cases s <;> simp [sI]

/-- with a factor 1: the sum -/
theorem val_one (ok : F.Ok) (k : Nat) (hk : k = 2500) : F.val (-2500) F.one = 2 ^ k := by
  obtain ⟨h1, h2, h3, h4, _, _⟩ := one_ok ok
  have hp := ok.p8
  have hp2 := ok.p53
  unfold Fm.val Fm.vl uN
  rw [h1, h2]
  have e3 : F.sig F.one = 2 ^ (F.p - 1) := by have := h3; unfold Fm.mag at this; rwa [h1] at this
  have e4 : F.xp F.one = 1 - F.p := by have := h4; unfold Fm.ex at this; rwa [h1] at this
  rw [e3, e4, ← Nat.pow_add]
  simp only [Bool.false_eq_true, if_false]
  rw [show F.p - 1 + (1 - (F.p : Int) - -2500).toNat = k by omega]
  simp

theorem val_units (ok : F.Ok) {a : Nat} (h : F.abs a < F.inf) (L M : Int) (h1 : L ≤ M) (h2 : M ≤ F.low) : F.val L a = F.val M a * 2 ^ (M - L).toNat := by
  have := ex_range ok h
  rw [val_i, val_i]
  exact i_scale _ L M h1 (by show M ≤ F.ex a; omega)

theorem one_facts (ok : F.Ok) : F.isNan F.one = false ∧ F.isSig F.one = false ∧ F.isInf F.one = false ∧ F.isZero F.one = false ∧ F.neg F.one = false := by
  obtain ⟨h1, h2, h3, h4, h5, h6⟩ := one_ok ok
  have n1 : F.isNan F.one = false := by unfold Fm.isNan; rw [h1]; simp; omega
  exact ⟨n1, by unfold Fm.isSig; rw [n1]; rfl, by unfold Fm.isInf; rw [h1]; simp; omega, by unfold Fm.isZero; rw [h1]; simp; exact h5, h2⟩

theorem sig_nan {a : Nat} (h : F.isNan a = false) : F.isSig a = false := by unfold Fm.isSig; rw [h]; rfl

theorem prodZ_one (ok : F.Ok) (a : Nat) : prodZ F a F.one = oneZ F a := by
  obtain ⟨n1, n2, n3, n4, n5⟩ := one_facts ok
  have hl := low_ge ok
  unfold prodZ oneZ
  obtain ⟨k, hk⟩ : ∃ k : Nat, k = 2500 := ⟨_, rfl⟩
  rw [n1, n2, n3, n4, n5, val_one ok k hk]
  cases h1 : F.isNan a
  · cases h2 : F.isInf a
    · have := val_units ok (fin_of h1 h2) (-5000) (-2500) (by decide) (by omega)
      rw [show ((-2500 : Int) - -5000).toNat = k by omega] at this
      simp only [Bool.or_self, Bool.false_eq_true, if_false]
      rw [this]
      simp
    · simp
  · unfold Fm.isInf
    have : F.abs a ≠ F.inf := by unfold Fm.isNan at h1; simp at h1; omega
    simp [this]

theorem sum_z (ok : F.Ok) (m : Nat) {a c : Nat} (ha : a < 2 ^ F.w) (hc : c < 2 ^ F.w) : fuseZ F m (oneZ F a) (oneZ F c) = addS F m a c := by
  have hpa := parts_mk ok ha
  have hpc := parts_mk ok hc
  have hl := low_ge ok
  unfold fuseZ oneZ addS
  simp only [Bool.or_false]
  by_cases c1 : (F.isSig a || F.isSig c) = true
  · rw [if_pos c1, if_pos c1]
  rw [if_neg c1, if_neg c1]
  by_cases c2 : (F.isNan a || F.isNan c) = true
  · rw [if_pos c2, if_pos c2]
  rw [if_neg c2, if_neg c2]
  simp only [Bool.or_eq_true, not_or, Bool.not_eq_true] at c2
  by_cases c3 : (F.isInf a && F.isInf c && (F.neg a != F.neg c)) = true
  · rw [if_pos c3, if_pos c3]
  rw [if_neg c3, if_neg c3]
  by_cases c4 : F.isInf a = true
  · rw [if_pos c4, if_pos c4]
    have : F.abs a = F.inf := by unfold Fm.isInf at c4; simpa using c4
    rw [this] at hpa
    rw [← hpa]
  rw [if_neg c4, if_neg c4]
  by_cases c5 : F.isInf c = true
  · rw [if_pos c5, if_pos c5]
    have : F.abs c = F.inf := by unfold Fm.isInf at c5; simpa using c5
    rw [this] at hpc
    rw [← hpc]
  rw [if_neg c5, if_neg c5]
  simp only [Bool.not_eq_true] at c4 c5
  simp only [c2, c4, c5, Bool.or_self, Bool.false_eq_true, if_false]
  have u1 := val_units ok (fin_of c2.1 c4) (-5000) F.low (by omega) (Int.le_refl _)
  have u2 := val_units ok (fin_of c2.2 c5) (-5000) F.low (by omega) (Int.le_refl _)
  have hz1 : decide (F.val (-5000) a = 0) = F.isZero a := by unfold Fm.isZero; congr 1; exact propext (val_zero_iff ok _)
  have hz2 : decide (F.val (-5000) c = 0) = F.isZero c := by unfold Fm.isZero; congr 1; exact propext (val_zero_iff ok _)
  rw [hz1, hz2, u1, u2, ← Int.add_mul]
  have hp := ipow_pos (F.low - -5000).toNat
  by_cases c6 : F.val F.low a + F.val F.low c = 0
  · rw [if_pos c6, c6, Int.zero_mul, if_pos rfl]
  · rw [if_neg c6, if_neg (Int.mul_ne_zero c6 (by omega)), rndZ_scale m _ F.low (-5000) c6 (by omega)]

/-- with a zero of the product's sign added: the product -/
theorem product_z (ok : F.Ok) (m : Nat) {a b : Nat} (ha : a < 2 ^ F.w) (hb : b < 2 ^ F.w) : fuseZ F m (prodZ F a b) (oneZ F (F.sg (F.neg a != F.neg b))) = mulS F m a b := by
  have hl := low_ge ok
  have hp : 1 ≤ F.p := by have := ok.p8; omega
  obtain ⟨h1, h2⟩ := zero_sg (F := F) (F.neg a != F.neg b)
  have hinf := inf_pos ok
  generalize hs : F.sg (F.neg a != F.neg b) = s at *
  have z1 : F.isNan s = false := by unfold Fm.isNan; rw [h1]; simp
  have z2 : F.isInf s = false := by unfold Fm.isInf; rw [h1]; simp; omega
  have z3 := sig_nan z1
  have z4 : F.val (-5000) s = 0 := val_zero _ h1
  unfold fuseZ prodZ oneZ mulS
  simp only [z1, z2, z3, z4, h2, Bool.or_false, Bool.and_false, Bool.false_and, Bool.or_self, Bool.false_eq_true, if_false, Int.add_zero]
  cases n1 : F.isNan a
  · cases n2 : F.isNan b
    · rw [sig_nan n1, sig_nan n2]
      simp only [Bool.or_self, Bool.false_or, Bool.not_false, Bool.true_and, Bool.false_eq_true, if_false]
      cases i1 : F.isInf a
      · cases i2 : F.isInf b
        · simp only [Bool.false_and, Bool.or_self, Bool.and_false, Bool.false_eq_true, if_false]
          by_cases c : F.val (-2500) a * F.val (-2500) b = 0
          · rw [if_pos c]
            have c' : (F.isZero a || F.isZero b) = true := by
              rw [Int.mul_eq_zero, val_zero_iff ok, val_zero_iff ok] at c
              unfold Fm.isZero; simpa using c
            rw [if_pos c', hs]
            simp [c, hs]
          · rw [if_neg c]
            have c' : ¬ (F.isZero a || F.isZero b) = true := by
              rw [Int.mul_eq_zero, val_zero_iff ok, val_zero_iff ok] at c
              unfold Fm.isZero; simpa using c
            rw [if_neg c']
            have hi := prod_i ok (fin_of n1 i1) (fin_of n2 i2)
            have c0 := c'
            simp only [Bool.or_eq_true, not_or, Bool.not_eq_true] at c0
            have hne : F.mag a * F.mag b ≠ 0 := Nat.mul_ne_zero (mag_ne hp c0.1) (mag_ne hp c0.2)
            have e1 := ex_range ok (fin_of n1 i1)
            have e2 := ex_range ok (fin_of n2 i2)
            have hr := into_rndZ (F := F) m ⟨F.neg a != F.neg b, F.mag a * F.mag b, F.ex a + F.ex b⟩ (-5000) hne (by show -5000 ≤ F.ex a + F.ex b; omega)
            rw [i_odd _ _ (by show -5000 ≤ F.ex a + F.ex b; omega)] at hi
            rw [← hi]
            exact hr.symm
        · cases F.isZero a <;> simp
      · have hz := (inf_not_zero ok i1).1
        cases i2 : F.isInf b
        · cases F.isZero b <;> simp [hz]
        · have hz2 := (inf_not_zero ok i2).1
          simp [hz, hz2]
    · rw [sig_nan n1]
      cases F.isSig b <;> simp
  · cases F.isSig a <;> cases F.isSig b <;> simp

end
end Go.Proofs.YtdbfkfbncmbfcaaGreatDoor
