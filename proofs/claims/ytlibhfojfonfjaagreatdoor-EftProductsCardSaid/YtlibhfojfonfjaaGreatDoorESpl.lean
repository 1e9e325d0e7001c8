/- Layer 18: Split's steps, exactly: the parts are together the number, each with half its digits. -/
import Derived.Test.YtlibhfojfonfjaaGreatDoorEMir
import Derived.Test.YtlibhfojfonfjaaGreatDoorVelt
namespace Go.Proofs.YtlibhfojfonfjaaGreatDoor
set_option linter.unusedVariables false
set_option linter.unusedSimpArgs false
open Go.RowKit

section
variable {F : Fm}

/-- the size in units of the least places -/
def Fm.un (F : Fm) (a : Nat) : Nat := F.vl F.low (F.abs a)

theorem val_un {a : Nat} (h : F.neg a = false) : F.val F.low a = (F.un a : Int) := val_abs_pos h

theorem un_zero (ok : F.Ok) {a : Nat} : F.un a = 0 ↔ F.abs a = 0 := by
  have h := val_zero_iff ok F.low (a := a)
  unfold Fm.val at h
  unfold Fm.un
  constructor
  · intro h1; apply h.1; rw [h1]; split <;> rfl
  · intro h1; have := h.2 h1; split at this <;> omega

theorem upB0 (neg odd : Bool) (r : Nat) : upB 0 neg odd r = (r == 3 || (r == 2 && odd)) := rfl

/-- a whole number of units, rounded to the nearest -/
theorem near_into (ok : F.Ok) (neg : Bool) (X : Nat) (h0 : X ≠ 0) (ht : ¬ F.emax < topE X F.low) :
    Near F.p X (F.un (intoS F 0 neg X F.low false).1) ∧ F.neg (intoS F 0 neg X F.low false).1 = neg := by
  have hp : 1 ≤ F.p := by have := ok.p8; omega
  obtain ⟨h1, h2⟩ := cut_lt ok 0 neg X F.low false h0
  refine ⟨?_, by rw [h1, neg_mk h2]⟩
  unfold Fm.un
  rw [into_abs ok 0 neg X F.low false h0]
  obtain ⟨v1, v2⟩ := floS_vl F hp X F.low F.low h0 (Int.le_refl _) (Int.le_refl _)
  have elow : F.low = F.emin - F.p + 1 := rfl
  have hb := bl_pos X h0
  have eq : quE F X F.low - F.low = ((bl X - F.p : Nat) : Int) := by unfold quE topE; omega
  have eqn : (quE F X F.low - F.low).toNat = bl X - F.p := by rw [eq]; simp
  have eqz : (-(quE F X F.low - F.low)).toNat = 0 := by rw [eq]; omega
  have ef : flr X (quE F X F.low - F.low) = X / 2 ^ (bl X - F.p) := by unfold flr; rw [eqn, eqz]; simp
  have er : rst X false (quE F X F.low - F.low) = cls (X % 2 ^ (bl X - F.p)) (2 ^ (bl X - F.p)) false := by unfold rst; rw [eqn, eqz]; simp
  rw [ef, eqn] at v1 v2
  have hd := Nat.div_add_mod X (2 ^ (bl X - F.p))
  have hm := Nat.mod_lt X (pow_pos2 (bl X - F.p))
  unfold magS
  rw [if_neg ht]
  unfold goesUp
  rw [er, upB0]
  unfold Near
  generalize hQ : 2 ^ (bl X - F.p) = Q at *
  generalize hr : X % Q = r at *
  generalize hx : X / Q = x at *
  rw [Nat.mul_comm Q x] at hd
  generalize hu : (cls r Q false != 0 && (cls r Q false == 3 || (cls r Q false == 2 && decide (flr X (quE F X F.low - F.low) % 2 = 1)))) = gu
  unfold cls at hu
  cases gu
  rotate_left
  · rw [if_pos rfl, v2]
    have hh : Q ≤ 2 * r := by
      by_cases h1 : r = 0
      · rw [if_pos h1] at hu; simp at hu
      · rw [if_neg h1] at hu
        by_cases h2 : 2 * r < Q
        · rw [if_pos h2] at hu; simp at hu
        · omega
    rw [Nat.add_mul, Nat.one_mul]
    exact ⟨⟨x + 1, by rw [Nat.mul_add, Nat.mul_one, Nat.mul_comm]⟩, by omega, by omega⟩
  · rw [if_neg (by decide), v1]
    have hh : 2 * r ≤ Q := by
      by_cases h1 : r = 0
      · omega
      · rw [if_neg h1] at hu
        by_cases h2 : 2 * r < Q
        · omega
        · rw [if_neg h2] at hu
          by_cases h3 : 2 * r = Q
          · omega
          · rw [if_neg (by simp; exact h3)] at hu; simp at hu
    exact ⟨⟨x, Nat.mul_comm _ _⟩, by omega, by omega⟩

theorem near_bound {p X R : Nat} (hp : 1 ≤ p) (h0 : X ≠ 0) (h : Near p X R) : 2 * R ≤ 3 * X ∧ X ≤ 2 * R ∧ bl R ≤ bl X + 1 := by
  obtain ⟨_, h2, h3⟩ := h
  have h1 := bl_ge X h0
  have h4 := bl_pos X h0
  have h5 : 2 ^ (bl X - p) ≤ X := Nat.le_trans (Nat.pow_le_pow_right (by decide) (by omega)) h1
  refine ⟨by omega, by omega, bl_le_of_lt ?_⟩
  have h6 := bl_lt X
  rw [Nat.pow_succ]
  omega

/-- what is not too great stays finite -/
theorem fin_into (ok : F.Ok) (neg : Bool) (X : Nat) (h0 : X ≠ 0) (ht : F.low + bl X + 1 ≤ F.emax) : finP F (intoS F 0 neg X F.low false).1 = true := by
  have hp : 1 ≤ F.p := by have := ok.p8; omega
  obtain ⟨h1, -⟩ := near_into ok neg X h0 (by unfold topE; omega)
  obtain ⟨-, -, h2⟩ := near_bound hp h0 h1
  unfold finP
  refine decide_eq_true (lt_of_vl F hp F.low (Int.le_refl _) ?_)
  rw [vl_inf F ok F.low (Int.le_refl _)]
  have h3 := bl_lt (F.un (intoS F 0 neg X F.low false).1)
  have h4 := Nat.pow_le_pow_right (show 0 < 2 by decide) (show bl (F.un (intoS F 0 neg X F.low false).1) ≤ (F.emax + 1 - F.low).toNat by omega)
  exact Nat.lt_of_lt_of_le h3 h4

/-- finite, so not too great -/
theorem top_of_fin (ok : F.Ok) (neg : Bool) (X : Nat) (h0 : X ≠ 0) (hf : finP F (intoS F 0 neg X F.low false).1 = true) : ¬ F.emax < topE X F.low := by
  intro h
  have := of_decide_eq_true hf
  rw [into_abs ok 0 neg X F.low false h0] at this
  unfold magS at this
  rw [if_pos h] at this
  simp [infB] at this

/-- a sum of finite floats -/
theorem add_pos (ok : F.Ok) {a b : Nat} (fa : finP F a = true) (fb : finP F b = true) {X : Nat} {s : Bool} (h0 : X ≠ 0) (h : F.val F.low a + F.val F.low b = if s then -(X : Int) else (X : Int)) :
    addR F a b = (intoS F 0 s X F.low false).1 := by
  unfold addR
  have hz : ¬ F.val F.low a + F.val F.low b = 0 := by rw [h]; split <;> omega
  rw [addS_fin ok (of_decide_eq_true fa) (of_decide_eq_true fb), if_neg hz, h, rndZ_mk 0 s X F.low h0]

theorem add_zero' (ok : F.Ok) {a b : Nat} (fa : finP F a = true) (fb : finP F b = true) (h : F.val F.low a + F.val F.low b = 0) : F.abs (addR F a b) = 0 := by
  unfold addR
  rw [addS_fin ok (of_decide_eq_true fa) (of_decide_eq_true fb), if_pos h]
  exact sg_zero ok _

theorem fin_flip' {b : Nat} (fb : finP F b = true) : finP F (F.flip b) = true := by rw [fin_flipP]; exact fb

/-- the digits of a float -/
theorem un_dvd (ok : F.Ok) {a : Nat} (h0 : F.abs a ≠ 0) : 2 ^ (bl (F.un a) - F.p) ∣ F.un a := by
  have hp : 1 ≤ F.p := by have := ok.p8; omega
  have e : F.un a = F.mag a * 2 ^ (F.ex a - F.low).toNat := rfl
  have hm : F.mag a < 2 ^ F.p := by
    unfold Fm.mag Fm.sig
    have h1 := Nat.mod_lt (F.abs a) (pow_pos2 (F.p - 1))
    have h2 := pow_split F.p hp
    split
    · rename_i h
      have := Nat.div_add_mod (F.abs a) (2 ^ (F.p - 1))
      rw [h] at this
      omega
    · omega
  have hb := bl_le_of_lt hm
  have hne : F.mag a ≠ 0 := mag_ne hp (by unfold Fm.isZero; simpa using h0)
  rw [e, bl_shl _ _ hne]
  exact Nat.dvd_trans (Nat.pow_dvd_pow 2 (by omega)) (Nat.dvd_mul_left _ _)

/-- a whole number of few digits is a float -/
theorem near_digits {p X R u k : Nat} (h : Near p X R) (hX : X = u * 2 ^ k) (hu : u < 2 ^ p) (h0 : X ≠ 0) : R = X := by
  refine near_exact h ?_
  have hu0 : u ≠ 0 := by rintro rfl; simp at hX; exact h0 hX
  have hb := bl_le_of_lt hu
  rw [hX, bl_shl _ _ hu0]
  exact Nat.dvd_trans (Nat.pow_dvd_pow 2 (by omega)) (Nat.dvd_mul_left _ _)

/-- the product with 2^s + 1 -/
theorem mul_K (ok : F.Ok) {K a s : Nat} (fK : finP F K = true) (fa : finP F a = true) (nK : F.neg K = false) (na : F.neg a = false) (h0 : F.abs a ≠ 0) (zK : F.abs K ≠ 0)
    (eK : ∃ M : Int, M ≤ F.ex K ∧ M ≤ 0 ∧ uN M (F.mag K) (F.ex K) = uN M (2 ^ s + 1) 0) : mulR F K a = (intoS F 0 false ((2 ^ s + 1) * F.un a) F.low false).1 := by
  have hp : 1 ≤ F.p := by have := ok.p8; omega
  have z1 : F.isZero K = false := by unfold Fm.isZero; simpa using zK
  have z2 : F.isZero a = false := by unfold Fm.isZero; simpa using h0
  obtain ⟨M, m1, m2, eM⟩ := eK
  unfold mulR
  rw [mulS_fin fK fa, z1, z2, nK, na]
  simp only [Bool.or_self, Bool.false_eq_true, if_false, bne_self_eq_false]
  have hl : F.low ≤ F.ex a := low_xp _
  congr 1
  refine into_eq F 0 false _ _ (F.ex K + F.ex a) F.low (Nat.mul_ne_zero (mag_ne hp z1) (mag_ne hp z2)) (M + F.low) (by omega) (by omega) ?_
  rw [uN_mul M F.low (F.mag K) (F.mag a) (F.ex K) (F.ex a) m1 hl, eM]
  have e2 : F.un a = uN F.low (F.mag a) (F.ex a) := rfl
  rw [← e2]
  unfold uN
  rw [show F.low - (M + F.low) = 0 - M by omega]
  simp only [Nat.mul_assoc, Nat.mul_comm, Nat.mul_left_comm]

/-- what the law asks of the two parts -/
structure SplitOk (F : Fm) (s q a : Nat) : Prop where
  sum : F.val F.low (hH F q a) + F.val F.low (hL F q a) = F.val F.low a
  high : ∃ k u, F.un (hH F q a) = u * 2 ^ k ∧ u ≤ 2 ^ (F.p - s)
  low : ∃ k v, F.un (hL F q a) = v * 2 ^ k ∧ v ≤ 2 ^ (s - 1)

/-- the constant of Split -/
structure KOk (F : Fm) (s K : Nat) : Prop where
  fin : finP F K = true
  neg : F.neg K = false
  ne : F.abs K ≠ 0
  val : ∃ M : Int, M ≤ F.ex K ∧ M ≤ 0 ∧ uN M (F.mag K) (F.ex K) = uN M (2 ^ s + 1) 0
  s1 : 1 ≤ s
  sp : s + 1 ≤ F.p

theorem two_lt (s : Nat) (h : 1 ≤ s) : 2 < 2 ^ s + 1 := by
  have h1 : 2 ^ 1 ≤ 2 ^ s := Nat.pow_le_pow_right (by decide) h
  rw [Nat.pow_one] at h1
  omega

theorem split_zero (ok : F.Ok) {s K a : Nat} (hK : KOk F s K) (h0 : F.abs a = 0) : (halfL F K a).all (finP F) = true ∧ SplitOk F s K a := by
  have hp : 1 ≤ F.p := by have := ok.p8; omega
  have hz : ∀ x, F.abs x = 0 → finP F x = true := by
    intro x hx; unfold finP; rw [hx]
    exact decide_eq_true (inf_pos ok)
  have hv : ∀ x, F.abs x = 0 → F.val F.low x = 0 := fun x hx => (val_zero_iff ok _).2 hx
  have ha := hz a h0
  have c0 : F.abs (hC F K a) = 0 := by
    unfold hC mulR
    have z2 : F.isZero a = true := by unfold Fm.isZero; simpa using h0
    rw [mulS_fin hK.fin ha, z2, Bool.or_true, if_pos rfl]
    exact sg_zero ok _
  have sub0 : ∀ x y, F.abs x = 0 → F.abs y = 0 → F.abs (subR F x y) = 0 := by
    intro x y hx hy
    refine add_zero' ok (hz x hx) (fin_flip' (hz y hy)) ?_
    rw [val_flip, hv x hx, hv y hy]; rfl
  have d0 : F.abs (hD F K a) = 0 := sub0 _ _ c0 h0
  have h0' : F.abs (hH F K a) = 0 := sub0 _ _ c0 d0
  have l0 : F.abs (hL F K a) = 0 := sub0 _ _ h0 h0'
  refine ⟨?_, ?_, ?_, ?_⟩
  · unfold halfL
    simp only [List.all_cons, List.all_nil, Bool.and_true, Bool.and_eq_true]
    exact ⟨hz _ c0, hz _ d0, hz _ h0', hz _ l0⟩
  · rw [hv _ h0', hv _ l0, hv _ h0]; rfl
  · exact ⟨0, 0, by rw [(un_zero ok).2 h0', Nat.zero_mul], Nat.zero_le _⟩
  · exact ⟨0, 0, by rw [(un_zero ok).2 l0, Nat.zero_mul], Nat.zero_le _⟩

/-- a number above zero: the steps, where they are finite -/
theorem split_steps (ok : F.Ok) {s K a : Nat} (hK : KOk F s K) (fa : finP F a = true) (na : F.neg a = false) (h0 : F.abs a ≠ 0)
    (hc : finP F (hC F K a) = true) (hd : finP F (hD F K a) = true) (hh : finP F (hH F K a) = true) (hl : finP F (hL F K a) = true) : SplitOk F s K a := by
  have hp : 1 ≤ F.p := by have := ok.p8; omega
  have n0 : F.un a ≠ 0 := fun h => h0 ((un_zero ok).1 h)
  have hn := un_dvd ok h0
  have va := val_un na
  obtain ⟨n, hne⟩ : ∃ n, n = F.un a := ⟨_, rfl⟩
  rw [← hne] at n0 hn va
  have X0 : (2 ^ s + 1) * n ≠ 0 := Nat.mul_ne_zero (Nat.succ_ne_zero _) n0
  have ec : hC F K a = (intoS F 0 false ((2 ^ s + 1) * n) F.low false).1 := by rw [hne]; exact mul_K ok hK.fin fa hK.neg na h0 hK.ne hK.val
  obtain ⟨C1, C2⟩ := near_into ok false _ X0 (top_of_fin ok false _ X0 (by rw [← ec]; exact hc))
  rw [← ec] at C1 C2
  have vc := val_un C2
  generalize hCv : F.un (hC F K a) = C at *
  have hnC : n < C := by
    have := (near_bound hp X0 C1).2.1
    have h2 : 2 * n < (2 ^ s + 1) * n := Nat.mul_lt_mul_of_pos_right (two_lt s hK.s1) (by omega)
    omega
  have ed : hD F K a = (intoS F 0 false (C - n) F.low false).1 := add_pos ok hc (fin_flip' fa) (by omega) (by rw [val_flip, vc, va]; first | omega | (simp <;> omega))
  obtain ⟨D1, D2⟩ := near_into ok false (C - n) (by omega) (top_of_fin ok false _ (by omega) (by rw [← ed]; exact hd))
  rw [← ed] at D1 D2
  have vd := val_un D2
  generalize hDv : F.un (hD F K a) = D at *
  obtain ⟨-, hDC, ⟨k, u, eu, hu⟩, v, ev, hv⟩ := velt hK.s1 hK.sp n0 hn C1 D1
  have hH0 : C - D ≠ 0 := by omega
  have eh : hH F K a = (intoS F 0 false (C - D) F.low false).1 := add_pos ok hc (fin_flip' hd) hH0 (by rw [val_flip, vc, vd]; first | omega | (simp <;> omega))
  obtain ⟨H1, H2⟩ := near_into ok false (C - D) hH0 (top_of_fin ok false _ hH0 (by rw [← eh]; exact hh))
  rw [← eh] at H1 H2
  have vh := val_un H2
  have eH := near_digits H1 eu (Nat.lt_of_le_of_lt hu (Nat.pow_lt_pow_right (by decide) (by have := hK.s1; have := hK.sp; omega))) hH0
  rw [eH] at vh
  have hvp : v < 2 ^ F.p := Nat.lt_of_le_of_lt hv (Nat.pow_lt_pow_right (by decide) (by have := hK.s1; have := hK.sp; omega))
  have high : ∃ k u, F.un (hH F K a) = u * 2 ^ k ∧ u ≤ 2 ^ (F.p - s) := ⟨k, u, by rw [eH]; exact eu, hu⟩
  by_cases hv0 : v = 0
  · have e : n = C - D := by rw [hv0] at ev; simp at ev; omega
    have l0 : F.abs (hL F K a) = 0 := add_zero' ok fa (fin_flip' hh) (by rw [val_flip, va, vh, e]; omega)
    have vl0 : F.val F.low (hL F K a) = 0 := (val_zero_iff ok _).2 l0
    exact ⟨by rw [vh, vl0, va, e]; simp, high, 0, 0, by rw [(un_zero ok).2 l0, Nat.zero_mul], Nat.zero_le _⟩
  · obtain ⟨g, hg⟩ : ∃ g, g = bl n - F.p := ⟨_, rfl⟩
    rw [← hg] at ev
    obtain ⟨V, hV⟩ : ∃ V, V = v * 2 ^ g := ⟨_, rfl⟩
    rw [← hV] at ev
    have V0 : V ≠ 0 := by rw [hV]; exact Nat.mul_ne_zero hv0 (Nat.ne_of_gt (pow_pos2 _))
    obtain ⟨σ, hσ⟩ : ∃ σ : Bool, (n : Int) - (C - D : Nat) = if σ then -(V : Int) else (V : Int) := by
      rcases ev with ev | ev
      · exact ⟨false, by first | omega | (simp <;> omega)⟩
      · exact ⟨true, by first | omega | (simp <;> omega)⟩
    have el : hL F K a = (intoS F 0 σ V F.low false).1 := add_pos ok fa (fin_flip' hh) V0 (by rw [val_flip, va, vh, ← hσ]; omega)
    obtain ⟨L1, L2⟩ := near_into ok σ V V0 (top_of_fin ok σ _ V0 (by rw [← el]; exact hl))
    rw [← el] at L1 L2
    have eL := near_digits L1 hV hvp V0
    have vl : F.val F.low (hL F K a) = if σ then -(V : Int) else (V : Int) := by
      unfold Fm.val
      rw [L2, show F.vl F.low (F.abs (hL F K a)) = V from eL]
    exact ⟨by rw [vh, vl, va, ← hσ]; omega, high, g, v, by rw [eL]; exact hV, hv⟩

/-- a number above zero that is not too great: all steps are finite -/
theorem split_fin (ok : F.Ok) {s K a : Nat} (hK : KOk F s K) (fa : finP F a = true) (na : F.neg a = false) (h0 : F.abs a ≠ 0)
    (hs : F.low + bl (F.un a) + s + 4 ≤ F.emax) : (halfL F K a).all (finP F) = true := by
  have hp : 1 ≤ F.p := by have := ok.p8; omega
  have n0 : F.un a ≠ 0 := fun h => h0 ((un_zero ok).1 h)
  have hn := un_dvd ok h0
  have va := val_un na
  obtain ⟨n, hne⟩ : ∃ n, n = F.un a := ⟨_, rfl⟩
  rw [← hne] at n0 hn va hs
  have X0 : (2 ^ s + 1) * n ≠ 0 := Nat.mul_ne_zero (Nat.succ_ne_zero _) n0
  have bX : bl ((2 ^ s + 1) * n) ≤ s + 1 + bl n := bl_le_of_lt (by
    have h1 := bl_lt n
    rw [Nat.pow_add]
    have h2 : 2 ^ s + 1 ≤ 2 ^ (s + 1) := by rw [Nat.pow_succ]; have := pow_pos2 s; omega
    exact Nat.lt_of_le_of_lt (Nat.mul_le_mul_right n h2) (Nat.mul_lt_mul_of_pos_left h1 (pow_pos2 _)))
  have ec : hC F K a = (intoS F 0 false ((2 ^ s + 1) * n) F.low false).1 := by rw [hne]; exact mul_K ok hK.fin fa hK.neg na h0 hK.ne hK.val
  have hc : finP F (hC F K a) = true := by rw [ec]; exact fin_into ok false _ X0 (by omega)
  obtain ⟨C1, C2⟩ := near_into ok false _ X0 (top_of_fin ok false _ X0 (by rw [← ec]; exact hc))
  rw [← ec] at C1 C2
  have vc := val_un C2
  generalize hCv : F.un (hC F K a) = C at *
  obtain ⟨-, hXC, bC⟩ := near_bound hp X0 C1
  have hnC : n < C := by
    have h2 : 2 * n < (2 ^ s + 1) * n := Nat.mul_lt_mul_of_pos_right (two_lt s hK.s1) (by omega)
    omega
  have bl1 : ∀ x, x ≤ C → bl x ≤ s + 2 + bl n := fun x hx => Nat.le_trans (bl_mono hx) (by omega)
  have ed : hD F K a = (intoS F 0 false (C - n) F.low false).1 := add_pos ok hc (fin_flip' fa) (by omega) (by rw [val_flip, vc, va]; first | omega | (simp <;> omega))
  have hd : finP F (hD F K a) = true := by rw [ed]; exact fin_into ok false _ (by omega) (by have := bl1 (C - n) (by omega); omega)
  obtain ⟨D1, D2⟩ := near_into ok false (C - n) (by omega) (top_of_fin ok false _ (by omega) (by rw [← ed]; exact hd))
  rw [← ed] at D1 D2
  have vd := val_un D2
  generalize hDv : F.un (hD F K a) = D at *
  obtain ⟨-, hDC, ⟨k, u, eu, hu⟩, v, ev, hv⟩ := velt hK.s1 hK.sp n0 hn C1 D1
  have hH0 : C - D ≠ 0 := by omega
  have eh : hH F K a = (intoS F 0 false (C - D) F.low false).1 := add_pos ok hc (fin_flip' hd) hH0 (by rw [val_flip, vc, vd]; first | omega | (simp <;> omega))
  have hh : finP F (hH F K a) = true := by rw [eh]; exact fin_into ok false _ hH0 (by have := bl1 (C - D) (by omega); omega)
  obtain ⟨H1, H2⟩ := near_into ok false (C - D) hH0 (top_of_fin ok false _ hH0 (by rw [← eh]; exact hh))
  rw [← eh] at H1 H2
  have vh := val_un H2
  have eH := near_digits H1 eu (Nat.lt_of_le_of_lt hu (Nat.pow_lt_pow_right (by decide) (by have := hK.s1; have := hK.sp; omega))) hH0
  rw [eH] at vh
  have hl : finP F (hL F K a) = true := by
    by_cases e : n = C - D
    · have l0 : F.abs (hL F K a) = 0 := add_zero' ok fa (fin_flip' hh) (by rw [val_flip, va, vh, e]; omega)
      unfold finP; rw [l0]
      exact decide_eq_true (inf_pos ok)
    · rcases Nat.lt_or_ge n (C - D) with h | h
      · have el : hL F K a = (intoS F 0 true (C - D - n) F.low false).1 := add_pos ok fa (fin_flip' hh) (by omega) (by rw [val_flip, va, vh]; first | omega | (simp <;> omega))
        rw [el]; exact fin_into ok true _ (by omega) (by have := bl1 (C - D - n) (by omega); omega)
      · have el : hL F K a = (intoS F 0 false (n - (C - D)) F.low false).1 := add_pos ok fa (fin_flip' hh) (by omega) (by rw [val_flip, va, vh]; first | omega | (simp <;> omega))
        rw [el]; exact fin_into ok false _ (by omega) (by have := bl1 (n - (C - D)) (by omega); omega)
  unfold halfL
  simp only [List.all_cons, List.all_nil, Bool.and_true, Bool.and_eq_true]
  exact ⟨hc, hd, hh, hl⟩

/-- every finite number -/
theorem split_all (ok : F.Ok) {s K a : Nat} (hK : KOk F s K) (fa : finP F a = true) :
    ((halfL F K a).all (finP F) = true → SplitOk F s K a) ∧ (F.low + bl (F.un a) + s + 4 ≤ F.emax → (halfL F K a).all (finP F) = true) := by
  by_cases h0 : F.abs a = 0
  · obtain ⟨h1, h2⟩ := split_zero ok hK h0
    exact ⟨fun _ => h2, fun _ => h1⟩
  have spl : ∀ b, (halfL F K b).all (finP F) = true → finP F (hC F K b) = true ∧ finP F (hD F K b) = true ∧ finP F (hH F K b) = true ∧ finP F (hL F K b) = true := by
    intro b h
    unfold halfL at h
    simpa only [List.all_cons, List.all_nil, Bool.and_true, Bool.and_eq_true] using h
  cases na : F.neg a
  · refine ⟨fun h => ?_, split_fin ok hK fa na h0⟩
    obtain ⟨h1, h2, h3, h4⟩ := spl a h
    exact split_steps ok hK fa na h0 h1 h2 h3 h4
  · have nb : F.neg (F.flip a) = false := by rw [neg_flip, na]; rfl
    have fb := fin_flip' fa
    have b0 : F.abs (F.flip a) ≠ 0 := by rw [abs_flip]; exact h0
    have ub : F.un (F.flip a) = F.un a := by unfold Fm.un; rw [abs_flip]
    have ta := Tw.flipped (F := F) a
    refine ⟨fun h => ?_, fun h => ?_⟩
    · obtain ⟨g1, t1, t2, -, -⟩ := tw_half ok ta hK.fin fa h
      obtain ⟨h1, h2, h3, h4⟩ := spl _ g1
      have hs := split_steps ok hK fb nb b0 h1 h2 h3 h4
      have u1 : F.un (hH F K a) = F.un (hH F K (F.flip a)) := by unfold Fm.un; rw [t1.1]
      have u2 : F.un (hL F K a) = F.un (hL F K (F.flip a)) := by unfold Fm.un; rw [t2.1]
      refine ⟨?_, by rw [u1]; exact hs.high, by rw [u2]; exact hs.low⟩
      have e := hs.sum
      rw [t1.val ok, t2.val ok, val_flip] at e
      simp only [if_true] at e
      omega
    · exact (tw_half ok ta.symm hK.fin fb (split_fin ok hK fb nb b0 (by rw [ub]; exact h))).1

end
end Go.Proofs.YtlibhfojfonfjaaGreatDoor
