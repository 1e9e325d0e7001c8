/- Layer 18: what the law of products asks, as plain numbers. -/
import Derived.Test.YtlibhfojfonfjaaGreatDoorEPrd
namespace Go.Proofs.YtlibhfojfonfjaaGreatDoor
set_option linter.unusedVariables false
set_option linter.unusedSimpArgs false
open Go.RowKit

section
variable {F : Fm}

theorem bl_of_le {x : Int} {c : Nat} (h1 : x ≤ 2 ^ c) (h2 : -x ≤ 2 ^ c) : bl x.natAbs ≤ c + 1 := by
  have e : (2 : Int) ^ (c + 1) = 2 ^ c * 2 := i2_succ c
  have := i2_pos c
  exact bl_le_abs (by omega) (by omega)

/-- all the steps of a product of two numbers that are not zero -/
theorem chain_prod (ok : F.Ok) {s K a b k : Nat} (hK : KOk F s K) (h1 : F.p ≤ 2 * s) (h2 : 2 * s ≤ F.p + 1) (h3 : s + 2 ≤ F.p) (fa : finP F a = true) (fb : finP F b = true)
    (hA : (halfL F K a).all (finP F) = true) (hB : (halfL F K b).all (finP F) = true) (hk : bl (F.un a) + bl (F.un b) = (-F.low).toNat + k + 2 * F.p) (a0 : F.un a ≠ 0) (b0 : F.un b ≠ 0)
    (hfin : (prodL F K a b).all (finP F) = true ∨ F.low + (k + 2 * F.p : Nat) + 2 ≤ F.emax) :
    (prodL F K a b).all (finP F) = true ∧ ∃ AB : Int, 2 ^ (-F.low).toNat * AB = F.val F.low a * F.val F.low b ∧ IsR F AB (mulR F a b) ∧ F.val F.low (mulR F a b) + F.val F.low (pR F K a b) = AB ∧ (2 ^ (k + 2 * F.p - 2) ≤ AB ∨ 2 ^ (k + 2 * F.p - 2) ≤ -AB) := by
  obtain ⟨xa, fh, fl⟩ := half_all ok hK fa hA
  obtain ⟨xb, fi, fj⟩ := half_all ok hK fb hB
  obtain ⟨HI, HJ, LI, LJ, AB, e1, e2, e3, e4, e5, hp, hsum, u1, u2, lo⟩ := prod_parts ok hK.s1 hK.sp xa xb hk a0 b0
  have pick : ∀ {x : Nat}, x ∈ prodL F K a b → ∀ {X : Int}, (X ≤ 2 ^ (k + 2 * F.p) ∧ -X ≤ 2 ^ (k + 2 * F.p)) → finP F x = true ∨ F.low + bl X.natAbs + 1 ≤ F.emax := by
    intro x hx X hX
    rcases hfin with h | h
    · exact Or.inl (List.all_eq_true.1 h x hx)
    · right
      have := bl_of_le hX.1 hX.2
      omega
  have R0 := isR_mul ok fa fb e5
  have F0 : finP F (mulR F a b) = true := (pick (x := mulR F a b) (by simp [prodL]) (X := AB) (by omega)).elim id (R0.fin ok)
  have N0 := R0.near ok F0
  obtain ⟨f1, f2, f3, f4⟩ := hp.fl hK.s1 h1 h2 h3
  obtain ⟨⟨g1, g2, g3, g4⟩, ⟨l1, l2, l3, l4⟩⟩ := dekker hK.s1 h1 h2 h3 hp hsum u1 u2 lo N0
  have pickl : ∀ {x : Nat}, x ∈ prodL F K a b → ∀ {X : Int}, bl X.natAbs ≤ k + 2 * F.p → finP F x = true ∨ F.low + bl X.natAbs + 1 ≤ F.emax := by
    intro x hx X hX
    rcases hfin with h | h
    · exact Or.inl (List.all_eq_true.1 h x hx)
    · right; omega
  have m1 : (2 : Int) ^ (k + F.p + s - 1) ≤ 2 ^ (k + 2 * F.p) := i2_le (by omega)
  have m2 : (2 : Int) ^ (k + 2 * s - 2) ≤ 2 ^ (k + 2 * F.p) := i2_le (by omega)
  have b2 := hp.b2
  have b3 := hp.b3
  have b4 := hp.b4
  obtain ⟨F1, v1⟩ := (isR_mul ok fh fi e1).exact ok f1 (pick (x := pG F K a b) (by simp [prodL]) hp.b1)
  obtain ⟨F2, v2⟩ := (isR_mul ok fh fj e2).exact ok f2 (pick (x := pHJ F K a b) (by simp [prodL]) (by omega))
  obtain ⟨F3, v3⟩ := (isR_mul ok fl fi e3).exact ok f3 (pick (x := pLI F K a b) (by simp [prodL]) (by omega))
  obtain ⟨F4, v4⟩ := (isR_mul ok fl fj e4).exact ok f4 (pick (x := pLJ F K a b) (by simp [prodL]) (by omega))
  have RW : IsR F (HI - F.val F.low (mulR F a b)) (pW F K a b) := by
    have := isR_sub ok (a := pG F K a b) (b := mulR F a b) F1 F0
    rw [show F.val F.low (pG F K a b) = HI from v1] at this
    exact this
  obtain ⟨F5, v5⟩ := RW.exact ok g1 (pickl (x := pW F K a b) (by simp [prodL]) l1)
  have RX : IsR F (HI - F.val F.low (mulR F a b) + HJ) (pX F K a b) := by
    have := isR_add ok (a := pW F K a b) (b := pHJ F K a b) F5 F2
    rw [v5, show F.val F.low (pHJ F K a b) = HJ from v2] at this
    exact this
  obtain ⟨F6, v6⟩ := RX.exact ok g2 (pickl (x := pX F K a b) (by simp [prodL]) l2)
  have RY : IsR F (HI - F.val F.low (mulR F a b) + HJ + LI) (pY F K a b) := by
    have := isR_add ok (a := pX F K a b) (b := pLI F K a b) F6 F3
    rw [v6, show F.val F.low (pLI F K a b) = LI from v3] at this
    exact this
  obtain ⟨F7, v7⟩ := RY.exact ok g3 (pickl (x := pY F K a b) (by simp [prodL]) l3)
  have RR : IsR F (HI - F.val F.low (mulR F a b) + HJ + LI + LJ) (pR F K a b) := by
    have := isR_add ok (a := pY F K a b) (b := pLJ F K a b) F7 F4
    rw [v7, show F.val F.low (pLJ F K a b) = LJ from v4] at this
    exact this
  obtain ⟨F8, v8⟩ := RR.exact ok g4 (pickl (x := pR F K a b) (by simp [prodL]) l4)
  refine ⟨?_, AB, e5, R0, by rw [v8]; omega, lo⟩
  unfold prodL
  simp only [List.all_cons, List.all_nil, Bool.and_true, Bool.and_eq_true]
  exact ⟨F0, F1, F5, F2, F6, F3, F7, F4, F8⟩

/-- of a zero factor all is zero -/
theorem zero_prod (ok : F.Ok) {s K a b : Nat} (hK : KOk F s K) (fa : finP F a = true) (fb : finP F b = true) (h0 : F.abs a = 0 ∨ F.abs b = 0)
    (hA : (halfL F K a).all (finP F) = true) (hB : (halfL F K b).all (finP F) = true) : (prodL F K a b).all (finP F) = true ∧ F.abs (mulR F a b) = 0 ∧ F.abs (pR F K a b) = 0 := by
  obtain ⟨xa, fh, fl⟩ := half_all ok hK fa hA
  obtain ⟨xb, fi, fj⟩ := half_all ok hK fb hB
  have hz : ∀ x, F.abs x = 0 → finP F x = true := by
    intro x hx; unfold finP; rw [hx]; exact decide_eq_true (inf_pos ok)
  have hv : ∀ x, F.abs x = 0 → F.val F.low x = 0 := fun x hx => (val_zero_iff ok _).2 hx
  have mz : ∀ x y, finP F x = true → finP F y = true → (F.abs x = 0 ∨ F.abs y = 0) → F.abs (mulR F x y) = 0 := by
    intro x y fx fy h
    have e : (F.isZero x || F.isZero y) = true := by
      unfold Fm.isZero
      rcases h with h1 | h1 <;> simp [h1]
    unfold mulR
    rw [mulS_fin fx fy, if_pos e]
    exact sg_zero ok _
  have sub0 : ∀ x y, F.abs x = 0 → F.abs y = 0 → F.abs (subR F x y) = 0 := by
    intro x y hx hy
    refine add_zero' ok (hz x hx) (fin_flip' (hz y hy)) ?_
    rw [val_flip, hv x hx, hv y hy]; rfl
  have add0 : ∀ x y, F.abs x = 0 → F.abs y = 0 → F.abs (addR F x y) = 0 := by
    intro x y hx hy
    refine add_zero' ok (hz x hx) (hz y hy) ?_
    rw [hv x hx, hv y hy]; rfl
  have hh : (F.abs (hH F K a) = 0 ∧ F.abs (hL F K a) = 0) ∨ (F.abs (hH F K b) = 0 ∧ F.abs (hL F K b) = 0) := h0.imp (half_zero ok hK) (half_zero ok hK)
  have z0 := mz a b fa fb h0
  have z1 : F.abs (pG F K a b) = 0 := mz _ _ fh fi (hh.imp And.left And.left)
  have z2 : F.abs (pHJ F K a b) = 0 := mz _ _ fh fj (hh.imp And.left And.right)
  have z3 : F.abs (pLI F K a b) = 0 := mz _ _ fl fi (hh.imp And.right And.left)
  have z4 : F.abs (pLJ F K a b) = 0 := mz _ _ fl fj (hh.imp And.right And.right)
  have z5 : F.abs (pW F K a b) = 0 := sub0 _ _ z1 z0
  have z6 : F.abs (pX F K a b) = 0 := add0 _ _ z5 z2
  have z7 : F.abs (pY F K a b) = 0 := add0 _ _ z6 z3
  have z8 : F.abs (pR F K a b) = 0 := add0 _ _ z7 z4
  refine ⟨?_, z0, z8⟩
  unfold prodL
  simp only [List.all_cons, List.all_nil, Bool.and_true, Bool.and_eq_true]
  exact ⟨hz _ z0, hz _ z1, hz _ z5, hz _ z2, hz _ z6, hz _ z3, hz _ z7, hz _ z4, hz _ z8⟩

/-- too small: in units -/
theorem small_un (ok : F.Ok) (x : Nat) : smallP F x = decide (F.un x < 2 ^ (2 * F.p)) := by
  have hp : 1 ≤ F.p := by have := ok.p8; omega
  unfold smallP
  by_cases hz : F.abs x = 0
  · have e1 : F.isZero x = true := by rw [isZero_abs]; exact decide_eq_true hz
    rw [e1, Bool.true_or, (un_zero ok).2 hz]
    exact (decide_eq_true (pow_pos2 _)).symm
  · have e1 : F.isZero x = false := by rw [isZero_abs]; exact decide_eq_false hz
    rw [e1, Bool.false_or]
    congr 1
    apply propext
    obtain ⟨t1, t2⟩ := top_units (F.mag x) (F.ex x) F.low (mag_ne hp e1) (low_xp _)
    have e4 : F.un x = uN F.low (F.mag x) (F.ex x) := rfl
    have e5 := topE_ge (F.mag x) (F.ex x) (mag_ne hp e1)
    have e6 : F.low ≤ F.ex x := low_xp _
    rw [e4]
    have elow : F.low = F.emin - F.p + 1 := rfl
    constructor
    · intro h
      have h1 := Nat.pow_le_pow_right (show 0 < 2 by decide) (show (topE (F.mag x) (F.ex x) - F.low).toNat + 1 ≤ 2 * F.p by omega)
      omega
    · intro h
      have h1 : 2 ^ (topE (F.mag x) (F.ex x) - F.low).toNat < 2 ^ (2 * F.p) := by omega
      have := (Nat.pow_lt_pow_iff_right (show 1 < 2 by decide)).1 h1
      omega

/-- a product of numbers of few digits in all is too small -/
theorem small_of_lt (ok : F.Ok) {a b : Nat} (fa : finP F a = true) (fb : finP F b = true) (a0 : F.abs a ≠ 0) (b0 : F.abs b ≠ 0) (ht : F.low + 2 * F.p ≤ F.emax) (h : bl (F.un a) + bl (F.un b) < (-F.low).toNat + 2 * F.p) : smallP F (mulR F a b) = true := by
  have hp : 1 ≤ F.p := by have := ok.p8; omega
  have hl := low_ge ok
  have za : F.isZero a = false := by unfold Fm.isZero; simpa using a0
  have zb : F.isZero b = false := by unfold Fm.isZero; simpa using b0
  have la : F.low ≤ F.ex a := low_xp _
  have lb : F.low ≤ F.ex b := low_xp _
  rw [small_un ok]
  refine decide_eq_true ?_
  have hm : mulR F a b = (intoS F 0 (F.neg a != F.neg b) (F.mag a * F.mag b) (F.ex a + F.ex b) false).1 := by
    unfold mulR
    rw [mulS_fin fa fb, za, zb]
    simp
  have hmm := Nat.mul_ne_zero (mag_ne hp za) (mag_ne hp zb)
  unfold Fm.un
  rw [hm, into_abs ok _ _ _ _ _ hmm, mag_units ok 0 _ _ _ (F.low + F.low) hmm (by omega), uN_mul F.low F.low _ _ _ _ la lb]
  generalize (F.neg a != F.neg b) = sg
  have e1 : uN F.low (F.mag a) (F.ex a) * uN F.low (F.mag b) (F.ex b) ≤ 2 ^ (2 * F.p - 1) * 2 ^ (-F.low).toNat := by
    rw [← Nat.pow_add]
    have h1 := bl_lt (F.un a)
    have h2 := bl_lt (F.un b)
    have h3 : F.un a * F.un b ≤ 2 ^ (bl (F.un a) + bl (F.un b)) := by rw [Nat.pow_add]; exact Nat.mul_le_mul (Nat.le_of_lt h1) (Nat.le_of_lt h2)
    exact Nat.le_trans h3 (Nat.pow_le_pow_right (by decide) (by omega))
  have ux : uN F.low (F.mag a) (F.ex a) * uN F.low (F.mag b) (F.ex b) ≠ 0 := Nat.mul_ne_zero (uN_ne _ _ _ (mag_ne hp za)) (uN_ne _ _ _ (mag_ne hp zb))
  have e2 := mag_mono F ok 0 sg (F.low + F.low) ux e1
  have Y0 : (2 : Nat) ^ (2 * F.p - 1) ≠ 0 := Nat.ne_of_gt (pow_pos2 _)
  have e3 : magS F 0 sg (2 ^ (2 * F.p - 1) * 2 ^ (-F.low).toNat) (F.low + F.low) false = magS F 0 sg (2 ^ (2 * F.p - 1)) F.low false := by
    rw [mag_units ok 0 sg (2 ^ (2 * F.p - 1)) F.low (F.low + F.low) Y0 (by omega)]
    unfold uN
    rw [show F.low - (F.low + F.low) = -F.low by omega]
  rw [e3] at e2
  have e4 := vl_le F hp F.low (Int.le_refl _) e2
  have bY : bl (2 ^ (2 * F.p - 1)) = 2 * F.p := by
    have := bl_unique (Nat.le_refl (2 ^ (2 * F.p - 1))) (Nat.pow_lt_pow_right (by decide) (Nat.lt_succ_self _))
    omega
  obtain ⟨n1, -⟩ := near_into ok sg (2 ^ (2 * F.p - 1)) Y0 (by unfold topE; rw [bY]; omega)
  have e5 := near_digits (u := 1) (k := 2 * F.p - 1) n1 (by rw [Nat.one_mul]) (Nat.lt_of_lt_of_le (by decide) (Nat.pow_le_pow_right (show 0 < 2 by decide) hp)) Y0
  unfold Fm.un at e5
  rw [into_abs ok 0 sg _ _ _ Y0] at e5
  rw [e5] at e4
  exact Nat.lt_of_le_of_lt e4 (Nat.pow_lt_pow_right (by decide) (by omega))

theorem IsR.same (ok : F.Ok) {X : Int} {p q : Nat} (hp : IsR F X p) (hq : IsR F X q) : q = p ∨ (F.abs p = 0 ∧ F.abs q = 0) := by
  by_cases h : X = 0
  · exact Or.inr ⟨hp.1 h, hq.1 h⟩
  · left
    obtain ⟨s, hs, e⟩ := hp.2 h
    obtain ⟨t, ht, e'⟩ := hq.2 h
    have : s = t := by
      cases s <;> cases t <;> simp only [Bool.false_eq_true, if_false, if_true] at hs ht ⊢ <;> omega
    rw [e, e', this]

/-- a float's own value, rounded -/
theorem rnd_self (ok : F.Ok) {r : Nat} (lr : r < 2 ^ F.w) (fr : finP F r = true) (h0 : F.abs r ≠ 0) (L : Int) (hL : L ≤ F.low) : rndZ F 0 (F.val L r) L = (r, 0) := by
  have hp : 1 ≤ F.p := by have := ok.p8; omega
  have hz : F.isZero r = false := by unfold Fm.isZero; simpa using h0
  have hm := mag_ne hp hz
  have h1 : F.val L r = if F.neg r then -(uN L (F.mag r) (F.ex r) : Int) else (uN L (F.mag r) (F.ex r) : Int) := rfl
  rw [h1, rndZ_mk 0 (F.neg r) _ L (uN_ne L _ _ hm)]
  rw [into_eq F 0 (F.neg r) _ (F.mag r) L (F.ex r) (uN_ne L _ _ hm) L (Int.le_refl _) (by have : F.low ≤ F.ex r := low_xp _; omega) (uN_self L _)]
  have := into_self ok 0 (F.neg r) h0 (of_decide_eq_true fr)
  rw [show intoS F 0 (F.neg r) (F.mag r) (F.ex r) false = intoS F 0 (F.neg r) (F.sig (F.abs r)) (F.xp (F.abs r)) false from rfl, this, ← parts_mk ok lr]

theorem i2_split (N : Nat) {low : Int} (hN : (N : Int) = -low) {c : Int} (hc : 0 ≤ low + c) : (2 : Int) ^ (low + c).toNat * 2 ^ (low + c).toNat * 2 ^ N = 2 ^ (low + (c + c)).toNat := by
  rw [← Int.pow_add, ← Int.pow_add]
  congr 1
  omega

/-- what layer 9 finds of the rest -/
theorem fms_rest (ok : F.Ok) {a b p r : Nat} {AB : Int} (fa : finP F a = true) (fb : finP F b = true) (fp : finP F p = true) (fr : finP F r = true) (lr : r < 2 ^ F.w)
    (hAB : 2 ^ (-F.low).toNat * AB = F.val F.low a * F.val F.low b) (h : F.val F.low p + F.val F.low r = AB) :
    ∃ t, fuseZ F 0 (prodZ F a b) (oneZ F (F.flip p)) = (t, 0) ∧ t < 2 ^ F.w ∧ (t = r ∨ (F.abs t = 0 ∧ F.abs r = 0)) := by
  have hl := low_ge ok
  have nn : ∀ x, finP F x = true → F.isNan x = false ∧ F.isInf x = false := by
    intro x h
    have h := of_decide_eq_true h
    unfold Fm.isNan Fm.isInf
    constructor
    · simpa using Nat.le_of_lt h
    · simp; omega
  obtain ⟨na, ia⟩ := nn a fa
  obtain ⟨nb, ib⟩ := nn b fb
  obtain ⟨np, ip⟩ := nn p fp
  have hfz := fuseZ_fin (F := F) 0 (x := prodZ F a b) (y := oneZ F (F.flip p)) (by unfold prodZ; simp [na, nb, ia, ib, sig_nan]) (by unfold oneZ; simp only [isSig_flip, isNan_flip, isInf_flip]; simp [np, ip, sig_nan])
  have hz : (prodZ F a b).z = F.val (-2500) a * F.val (-2500) b := by unfold prodZ; simp [na, nb, ia, ib]
  have hy : (oneZ F (F.flip p)).z = -F.val (-5000) p := by unfold oneZ; simp only [isNan_flip, isInf_flip, val_flip]; simp [np, ip]
  have hv : F.val (-2500) a * F.val (-2500) b + -F.val (-5000) p = F.val (-5000) r := by
    have e1 : F.val (-2500) a * F.val (-2500) b = AB * 2 ^ (F.low + 5000).toNat := by
      have es := i2_split (-F.low).toNat (low := F.low) (by omega) (c := 2500) (by omega)
      rw [show (2500 : Int) + 2500 = 5000 from rfl] at es
      rw [val_deep a _ (by omega), val_deep b _ (by omega), ← es]
      rw [show F.low - -2500 = F.low + 2500 by omega]
      generalize (2 : Int) ^ (F.low + 2500).toNat = c
      have : F.val F.low a * c * (F.val F.low b * c) = (F.val F.low a * F.val F.low b) * (c * c) := by simp only [Int.mul_assoc, Int.mul_left_comm]
      rw [this, ← hAB]
      simp only [Int.mul_assoc, Int.mul_left_comm, Int.mul_comm]
    rw [e1, val_deep p _ (by omega), val_deep r (-5000) (by omega), ← h, show F.low - -5000 = F.low + 5000 by omega, Int.add_mul]
    omega
  rw [hz, hy, hv] at hfz
  by_cases h0 : F.abs r = 0
  · have e0 : F.val (-5000) r = 0 := (val_zero_iff ok _).2 h0
    rw [if_pos e0] at hfz
    refine ⟨_, hfz, ?_, Or.inr ⟨sg_zero ok _, h0⟩⟩
    have h3 := w_two ok
    have := sg_lt ok (if decide (F.val (-2500) a * F.val (-2500) b = 0) && decide (-F.val (-5000) p = 0) && ((prodZ F a b).neg == (oneZ F (F.flip p)).neg) then (prodZ F a b).neg else (0 : Nat) == 4)
    have hp2 := pow_pos2 (F.w - 1)
    omega
  · have e0 : ¬ F.val (-5000) r = 0 := fun h' => h0 ((val_zero_iff ok _).1 h')
    rw [if_neg e0, rnd_self ok lr fr h0 (-5000) (by omega)] at hfz
    exact ⟨r, hfz, lr, Or.inl rfl⟩

/-- the exact product, as layer 3 answers it -/
theorem prod_dyad (ok : F.Ok) {a b : Nat} (fa : finP F a = true) (fb : finP F b = true) : ∃ d, mulD (nd 64 (valD F a).n) (valD F a) (nd 64 (valD F b).n) (valD F b) = (d, 0) ∧ cmpD (nd 64 d.n) d (nd 64 d.n) d = (0, 0) ∧
    ∀ p r AB, finP F p = true → finP F r = true → 2 ^ (-F.low).toNat * AB = F.val F.low a * F.val F.low b → F.val F.low p + F.val F.low r = AB → addD (nd 64 (valD F p).n) (valD F p) (nd 64 (valD F r).n) (valD F r) = (d, 0) := by
  obtain ⟨a1, a2, a3, a4⟩ := valD_facts ok (of_decide_eq_true fa)
  obtain ⟨b1, b2, b3, b4⟩ := valD_facts ok (of_decide_eq_true fb)
  have hl := low_ge ok
  obtain ⟨x, hx, hr, -⟩ := prod_val ok (of_decide_eq_true fa) (of_decide_eq_true fb)
  obtain ⟨d', hd', hL', hi'⟩ := mulD_ans (-40000) (Int.le_refl _) a1 b1 a2 b2
  refine ⟨x, hx, ?_, ?_⟩
  · rw [cmpD_val _ _ _ _ (-40000) (Int.le_refl _) hr hr, Int.sub_self]
    rfl
  · intro p r AB fp fr hAB h
    obtain ⟨p1, p2, p3, p4⟩ := valD_facts ok (of_decide_eq_true fp)
    obtain ⟨r1, r2, r3, r4⟩ := valD_facts ok (of_decide_eq_true fr)
    obtain ⟨e, he, hL, hi⟩ := addD_ans (-40000 + -40000) (by decide) p1 r1
    rw [← hx, hd', he]
    refine ansD_eq (-40000 + -40000) hL hL' (by decide) ?_
    rw [hi, hi', p3 _ (by decide), r3 _ (by decide), a3 _ (Int.le_refl _), b3 _ (Int.le_refl _), val_deep p _ (by omega), val_deep r _ (by omega), val_deep a _ (by omega), val_deep b _ (by omega), ← Int.add_mul, h]
    rw [show F.low - (-40000 + -40000) = F.low + (40000 + 40000) by omega, show F.low - -40000 = F.low + 40000 by omega, ← i2_split (-F.low).toNat (by omega) (c := 40000) (by omega)]
    generalize (2 : Int) ^ (F.low + 40000).toNat = c
    have : F.val F.low a * c * (F.val F.low b * c) = (F.val F.low a * F.val F.low b) * (c * c) := by simp only [Int.mul_assoc, Int.mul_left_comm]
    rw [this, ← hAB]
    simp only [Int.mul_assoc, Int.mul_left_comm, Int.mul_comm]

end

/-- an answer that is right -/
def GoodP (n a b : Nat) (d : D) (p r : Nat) : Prop := p = mulR (fm n) a b ∧ p < 2 ^ (fm n).w ∧ r < 2 ^ (fm n).w ∧ finP (fm n) p = true ∧ finP (fm n) r = true ∧
  addD (nd 64 (valA n p).n) (valA n p) (nd 64 (valA n r).n) (valA n r) = (d, 0) ∧ (addR (fm n) p r = p ∨ ((fm n).abs p = 0 ∧ (fm n).abs (addR (fm n) p r) = 0)) ∧
  ∃ t, fuseZ (fm n) 0 (prodZ (fm n) a b) (oneZ (fm n) ((fm n).flip p)) = (t, 0) ∧ t < 2 ^ (fm n).w ∧ (t = r ∨ ((fm n).abs t = 0 ∧ (fm n).abs r = 0))

theorem prod_lts {n a b : Nat} (hn : n = 2 ∨ n = 3) (la : a < 2 ^ (fm n).w) (lb : b < 2 ^ (fm n).w) : mulR (fm n) a b < 2 ^ (fm n).w ∧ pR (fm n) (kq n) a b < 2 ^ (fm n).w := by
  have ok := fm_ok n
  have h1 := mulR_lt ok la lb
  obtain ⟨h2, h3⟩ := half_lt' hn la
  obtain ⟨h4, h5⟩ := half_lt' hn lb
  exact ⟨h1, addR_lt ok (addR_lt ok (addR_lt ok (subR_lt ok (mulR_lt ok h2 h4) h1) (mulR_lt ok h2 h5)) (mulR_lt ok h3 h4)) (mulR_lt ok h3 h5)⟩

/-- the top of a value, 0 of a zero -/
theorem top18_any {n a : Nat} (hn4 : n < 4) (la : a < 2 ^ (fm n).w) (fa : finP (fm n) a = true) : (topD (nd 64 (valA n a).n) (valA n a)).1 = if (fm n).abs a = 0 then 0 else (bl ((fm n).un a) : Int) - 1 + (fm n).low := by
  have ok := fm_ok n
  rw [valA_fin hn4 la (of_decide_eq_true fa)]
  by_cases h : (fm n).abs a = 0
  · rw [if_pos h]
    have := (valD_facts ok (of_decide_eq_true fa)).2.2.2
    have hz : (valD (fm n) a).n = 0 := by
      rcases Nat.eq_zero_or_pos (valD (fm n) a).n with h1 | h1
      · exact h1
      · exact absurd h (this.2 (by omega))
    have hr := (valD_facts ok (of_decide_eq_true fa)).1
    unfold topD
    rw [if_pos hr, if_pos hz]
  · rw [if_neg h, top_val ok fa h]

set_option maxRecDepth 10000 in
/-- what the law of products asks -/
theorem prods_law {n a b : Nat} (hn : n = 2 ∨ n = 3) (la : a < 2 ^ (fm n).w) (lb : b < 2 ^ (fm n).w) :
    ((finP (fm n) a && finP (fm n) b) = false ∧ prodE n a b = (0, 0, 40)) ∨
    (finP (fm n) a = true ∧ finP (fm n) b = true ∧ ∃ d, mulD (nd 64 (valA n a).n) (valA n a) (nd 64 (valA n b).n) (valA n b) = (d, 0) ∧ cmpD (nd 64 d.n) d (nd 64 d.n) d = (0, 0) ∧
      ((prodE n a b = (0, 0, 7) ∧ ((topD (nd 64 (valA n a).n) (valA n a)).1 < -40 ∨ 60 < (topD (nd 64 (valA n a).n) (valA n a)).1 ∨ (topD (nd 64 (valA n b).n) (valA n b)).1 < -40 ∨ 60 < (topD (nd 64 (valA n b).n) (valA n b)).1)) ∨
       ∃ p r, prodE n a b = (p, r, 0) ∧ GoodP n a b d p r)) := by
  have ok := fm_ok n
  have hn4 : n < 4 := by omega
  have hK := kq_ok n hn
  have hc : (fm n).p ≤ 2 * sK n ∧ 2 * sK n ≤ (fm n).p + 1 ∧ sK n + 2 ≤ (fm n).p ∧ (fm n).low + 2 * (fm n).p ≤ (fm n).emax ∧ 2 * (fm n).p + 84 ≤ (-(fm n).low).toNat ∧ 127 ≤ (fm n).emax ∧ sK n ≤ 27 := by
    rcases hn with rfl | rfl <;> decide
  obtain ⟨c1, c2, c3, c4, c5, c6, c7⟩ := hc
  have ek : knownE n [a, b] = if (finP (fm n) a && finP (fm n) b) = true then 0 else 40 := by
    unfold knownE
    rw [if_pos (by simp only [List.all_cons, List.all_nil, Bool.and_true, Bool.and_eq_true, decide_eq_true_eq]; exact ⟨la, lb⟩)]
    simp only [List.all_cons, List.all_nil, Bool.and_true]
  cases hf : (finP (fm n) a && finP (fm n) b)
  · left
    rw [hf] at ek
    refine ⟨rfl, ?_⟩
    unfold prodE; rw [ek]; rfl
  right
  rw [hf] at ek
  rw [Bool.and_eq_true] at hf
  obtain ⟨fa, fb⟩ := hf
  obtain ⟨d, hd, hcm, hall⟩ := prod_dyad ok fa fb
  have e1 : valA n a = valD (fm n) a := valA_fin hn4 la (of_decide_eq_true fa)
  have e2 : valA n b = valD (fm n) b := valA_fin hn4 lb (of_decide_eq_true fb)
  obtain ⟨l1, l2⟩ := prod_lts hn la lb
  have good : ∀ AB, finP (fm n) (mulR (fm n) a b) = true → finP (fm n) (pR (fm n) (kq n) a b) = true → 2 ^ (-(fm n).low).toNat * AB = (fm n).val (fm n).low a * (fm n).val (fm n).low b → (fm n).val (fm n).low (mulR (fm n) a b) + (fm n).val (fm n).low (pR (fm n) (kq n) a b) = AB → GoodP n a b d (mulR (fm n) a b) (pR (fm n) (kq n) a b) := by
    intro AB fp fr hAB h
    refine ⟨rfl, l1, l2, fp, fr, ?_, ?_, fms_rest ok fa fb fp fr l2 hAB h⟩
    · rw [valA_fin hn4 l1 (of_decide_eq_true fp), valA_fin hn4 l2 (of_decide_eq_true fr)]
      exact hall _ _ AB fp fr hAB h
    · have r1 := isR_mul ok fa fb hAB
      have r2 := isR_add ok fp fr
      rw [h] at r2
      exact r1.same ok r2
  refine ⟨fa, fb, d, by rw [e1, e2]; exact hd, hcm, ?_⟩
  have ans : prodOk (fm n) (kq n) a b = true → (∃ AB, 2 ^ (-(fm n).low).toNat * AB = (fm n).val (fm n).low a * (fm n).val (fm n).low b ∧ (fm n).val (fm n).low (mulR (fm n) a b) + (fm n).val (fm n).low (pR (fm n) (kq n) a b) = AB) → ∃ p r, prodE n a b = (p, r, 0) ∧ GoodP n a b d p r := by
    intro h ⟨AB, h1, h2⟩
    have hP : (prodL (fm n) (kq n) a b).all (finP (fm n)) = true := by
      unfold prodOk at h
      simp only [Bool.and_eq_true] at h
      exact h.1.2
    refine ⟨_, _, ?_, good AB (List.all_eq_true.1 hP _ (by simp [prodL])) (List.all_eq_true.1 hP _ (by simp [prodL])) h1 h2⟩
    unfold prodE
    rw [ek, if_neg (by decide), if_pos h]
  have no : prodOk (fm n) (kq n) a b = false → prodE n a b = (0, 0, 7) := by
    intro h
    unfold prodE
    rw [ek, h]
    rfl
  rw [top18_any hn4 la fa, top18_any hn4 lb fb]
  have sa := (split_all ok hK fa).2
  have sb := (split_all ok hK fb).2
  have lowN : (((-(fm n).low).toNat : Nat) : Int) = -(fm n).low := by have := low_ge ok; omega
  by_cases z : (fm n).abs a = 0 ∨ (fm n).abs b = 0
  · by_cases hh : (halfL (fm n) (kq n) a).all (finP (fm n)) = true ∧ (halfL (fm n) (kq n) b).all (finP (fm n)) = true
    · right
      obtain ⟨p1, p2, p3⟩ := zero_prod ok hK fa fb z hh.1 hh.2
      refine ans ?_ ⟨0, ?_, ?_⟩
      · unfold prodOk Fm.isZero
        rw [hh.1, hh.2, p1]
        rcases z with z | z <;> simp [z]
      · rw [Int.mul_zero]
        rcases z with z | z
        · rw [(val_zero_iff ok _).2 z, Int.zero_mul]
        · rw [(val_zero_iff ok _).2 z, Int.mul_zero]
      · rw [(val_zero_iff ok _).2 p2, (val_zero_iff ok _).2 p3]; rfl
    · left
      refine ⟨no ?_, ?_⟩
      · cases h : prodOk (fm n) (kq n) a b
        · rfl
        · unfold prodOk at h
          simp only [Bool.and_eq_true] at h
          exact absurd h.1.1 hh
      · have hz : ∀ x, (fm n).abs x = 0 → (halfL (fm n) (kq n) x).all (finP (fm n)) = true := fun x hx => (split_zero ok hK hx).1
        rcases z with z | z
        · rw [if_pos z]
          by_cases z2 : (fm n).abs b = 0
          · exact absurd ⟨hz a z, hz b z2⟩ hh
          · rw [if_neg z2]
            have h1 : ¬ ((fm n).low + bl ((fm n).un b) + sK n + 4 ≤ (fm n).emax) := fun h => hh ⟨hz a z, sb h⟩
            omega
        · rw [if_pos z]
          by_cases z2 : (fm n).abs a = 0
          · exact absurd ⟨hz a z2, hz b z⟩ hh
          · rw [if_neg z2]
            have h1 : ¬ ((fm n).low + bl ((fm n).un a) + sK n + 4 ≤ (fm n).emax) := fun h => hh ⟨sa h, hz b z⟩
            omega
  · have a0 : (fm n).abs a ≠ 0 := fun h => z (Or.inl h)
    have b0 : (fm n).abs b ≠ 0 := fun h => z (Or.inr h)
    rw [if_neg a0, if_neg b0]
    have ua : (fm n).un a ≠ 0 := fun h => a0 ((un_zero ok).1 h)
    have ub : (fm n).un b ≠ 0 := fun h => b0 ((un_zero ok).1 h)
    have za : (fm n).isZero a = false := by unfold Fm.isZero; simpa using a0
    have zb : (fm n).isZero b = false := by unfold Fm.isZero; simpa using b0
    cases h : prodOk (fm n) (kq n) a b
    · -- refused: a factor is far from 1
      by_cases near : (bl ((fm n).un a) : Int) - 1 + (fm n).low < -40 ∨ 60 < (bl ((fm n).un a) : Int) - 1 + (fm n).low ∨ (bl ((fm n).un b) : Int) - 1 + (fm n).low < -40 ∨ 60 < (bl ((fm n).un b) : Int) - 1 + (fm n).low
      · exact Or.inl ⟨no h, near⟩
      · exfalso
        have hA := sa (by omega)
        have hB := sb (by omega)
        obtain ⟨k, hk⟩ : ∃ k, bl ((fm n).un a) + bl ((fm n).un b) = (-(fm n).low).toNat + k + 2 * (fm n).p := ⟨bl ((fm n).un a) + bl ((fm n).un b) - (-(fm n).low).toNat - 2 * (fm n).p, by omega⟩
        obtain ⟨P1, AB, P2, P3, P4, P5⟩ := chain_prod ok hK c1 c2 c3 fa fb hA hB hk ua ub (Or.inr (by omega))
        have fp : finP (fm n) (mulR (fm n) a b) = true := List.all_eq_true.1 P1 _ (by simp [prodL])
        have ns : smallP (fm n) (mulR (fm n) a b) = false := by
          rw [small_un ok]
          refine decide_eq_false ?_
          have N0 := P3.near ok fp
          have hp1 : 1 ≤ (fm n).p := by have := ok.p8; omega
          have fl2 : Fl' (fm n).p ((2 : Int) ^ (k + 2 * (fm n).p - 2)) := fl_of (k := k + (fm n).p) hp1 (i2_dvd (by have := ok.p8; omega)) (i2_le (by omega)) (by have h1 := i2_pos (k + 2 * (fm n).p - 2); have h2 := i2_pos ((fm n).p + (k + (fm n).p)); omega)
          have hge : (2 : Int) ^ (2 * (fm n).p) ≤ 2 ^ (k + 2 * (fm n).p - 2) := i2_le (by omega)
          have hval := val_abs (F := fm n) (mulR (fm n) a b)
          rcases P5 with h5 | h5
          · have := near_ge hp1 N0 fl2 h5
            rw [← i2_cast] at hge this
            rw [← i2_cast] at hge
            omega
          · have := near_le' hp1 N0 (fl_neg fl2) (by omega)
            rw [← i2_cast] at hge this
            rw [← i2_cast] at hge
            omega
        unfold prodOk at h
        rw [hA, hB, P1, za, zb, ns] at h
        simp at h
    · right
      have hsave := h
      unfold prodOk at h
      simp only [Bool.and_eq_true, za, zb, Bool.not_false, Bool.true_and, Bool.not_eq_true'] at h
      obtain ⟨⟨⟨hA, hB⟩, hP⟩, hS⟩ := h
      have hbl : (-(fm n).low).toNat + 2 * (fm n).p ≤ bl ((fm n).un a) + bl ((fm n).un b) := by
        rcases Nat.lt_or_ge (bl ((fm n).un a) + bl ((fm n).un b)) ((-(fm n).low).toNat + 2 * (fm n).p) with h1 | h1
        · have := small_of_lt ok fa fb a0 b0 c4 h1
          rw [hS] at this; cases this
        · exact h1
      obtain ⟨k, hk⟩ : ∃ k, bl ((fm n).un a) + bl ((fm n).un b) = (-(fm n).low).toNat + k + 2 * (fm n).p := ⟨bl ((fm n).un a) + bl ((fm n).un b) - (-(fm n).low).toNat - 2 * (fm n).p, by omega⟩
      obtain ⟨P1, AB, P2, P3, P4, P5⟩ := chain_prod ok hK c1 c2 c3 fa fb hA hB hk ua ub (Or.inl hP)
      exact ans hsave ⟨AB, P2, P4⟩

end Go.Proofs.YtlibhfojfonfjaaGreatDoor
