/- Layer 18: product and rest are together just the exact product: the steps. -/
import Derived.Test.YtlibhfojfonfjaaGreatDoorESum
import Derived.Test.YtlibhfojfonfjaaGreatDoorDek
namespace Go.Proofs.YtlibhfojfonfjaaGreatDoor
set_option linter.unusedVariables false
set_option linter.unusedSimpArgs false
open Go.RowKit

section
variable {F : Fm}

/-! ### the halves of a factor -/
theorem val_of_un {a : Nat} : F.val F.low a = (F.un a : Int) ∨ F.val F.low a = -(F.un a : Int) := by
  unfold Fm.val
  cases F.neg a
  · left; rfl
  · right; rfl

structure HalfX (F : Fm) (s K a : Nat) : Prop where
  sum : F.val F.low (hH F K a) + F.val F.low (hL F K a) = F.val F.low a
  hd : (2 : Int) ^ (s + bl (F.un a) - F.p) ∣ F.val F.low (hH F K a)
  hb : F.val F.low (hH F K a) ≤ 2 ^ bl (F.un a) ∧ -F.val F.low (hH F K a) ≤ 2 ^ bl (F.un a)
  lb : 2 * F.val F.low (hL F K a) ≤ 2 ^ (s + bl (F.un a) - F.p) ∧ -(2 * F.val F.low (hL F K a)) ≤ 2 ^ (s + bl (F.un a) - F.p)
  l0 : s + bl (F.un a) ≤ F.p → F.val F.low (hL F K a) = 0

theorem half_zero (ok : F.Ok) {s K a : Nat} (hK : KOk F s K) (h0 : F.abs a = 0) : F.abs (hH F K a) = 0 ∧ F.abs (hL F K a) = 0 := by
  have hz : ∀ x, F.abs x = 0 → finP F x = true := by
    intro x hx; unfold finP; rw [hx]; exact decide_eq_true (inf_pos ok)
  have hv : ∀ x, F.abs x = 0 → F.val F.low x = 0 := fun x hx => (val_zero_iff ok _).2 hx
  have c0 : F.abs (hC F K a) = 0 := by
    unfold hC mulR
    have z2 : F.isZero a = true := by unfold Fm.isZero; simpa using h0
    rw [mulS_fin hK.fin (hz a h0), z2, Bool.or_true, if_pos rfl]
    exact sg_zero ok _
  have sub0 : ∀ x y, F.abs x = 0 → F.abs y = 0 → F.abs (subR F x y) = 0 := by
    intro x y hx hy
    refine add_zero' ok (hz x hx) (fin_flip' (hz y hy)) ?_
    rw [val_flip, hv x hx, hv y hy]; rfl
  have d0 : F.abs (hD F K a) = 0 := sub0 _ _ c0 h0
  have h0' : F.abs (hH F K a) = 0 := sub0 _ _ c0 d0
  exact ⟨h0', sub0 _ _ h0 h0'⟩

theorem half_pos (ok : F.Ok) {s K a : Nat} (hK : KOk F s K) (fa : finP F a = true) (na : F.neg a = false) (h0 : F.abs a ≠ 0)
    (hc : finP F (hC F K a) = true) (hd : finP F (hD F K a) = true) (hh : finP F (hH F K a) = true) (hl : finP F (hL F K a) = true) : HalfX F s K a := by
  have hp : 1 ≤ F.p := by have := ok.p8; omega
  have hsum := (split_steps ok hK fa na h0 hc hd hh hl).sum
  have n0 : F.un a ≠ 0 := fun h => h0 ((un_zero ok).1 h)
  have hn := un_dvd ok h0
  have va := val_un na
  obtain ⟨n, hne⟩ : ∃ n, n = F.un a := ⟨_, rfl⟩
  rw [← hne] at n0 hn va
  have X0 : (2 ^ s + 1) * n ≠ 0 := Nat.mul_ne_zero (Nat.succ_ne_zero _) n0
  have ec : hC F K a = (intoS F 0 false ((2 ^ s + 1) * n) F.low false).1 := by rw [hne]; exact mul_K ok hK.fin fa hK.neg na h0 hK.ne hK.val
  obtain ⟨C1, C2⟩ := near_into ok false _ X0 (top_of_fin ok false _ X0 (by rw [← ec]; exact hc))
  rw [← ec] at C1 C2
  have vc := val_un C2
  generalize hCv : F.un (hC F K a) = C at *
  have hnC : n < C := by
    have := (near_bound hp X0 C1).2.1
    have h2 : 2 * n < (2 ^ s + 1) * n := Nat.mul_lt_mul_of_pos_right (two_lt s hK.s1) (by omega)
    omega
  have ed : hD F K a = (intoS F 0 false (C - n) F.low false).1 := add_pos ok hc (fin_flip' fa) (by omega) (by rw [val_flip, vc, va]; first | omega | (simp <;> omega))
  obtain ⟨D1, D2⟩ := near_into ok false (C - n) (by omega) (top_of_fin ok false _ (by omega) (by rw [← ed]; exact hd))
  rw [← ed] at D1 D2
  have vd := val_un D2
  generalize hDv : F.un (hD F K a) = D at *
  obtain ⟨-, hDC, ⟨k, u, eu, hu⟩, -, -, -⟩ := velt hK.s1 hK.sp n0 hn C1 D1
  obtain ⟨x1, x2, x3, x4, x5⟩ := velt2 hK.s1 hK.sp n0 hn C1 D1
  have hH0 : C - D ≠ 0 := by omega
  have eh : hH F K a = (intoS F 0 false (C - D) F.low false).1 := add_pos ok hc (fin_flip' hd) hH0 (by rw [val_flip, vc, vd]; first | omega | (simp <;> omega))
  obtain ⟨H1, H2⟩ := near_into ok false (C - D) hH0 (top_of_fin ok false _ hH0 (by rw [← eh]; exact hh))
  rw [← eh] at H1 H2
  have vh := val_un H2
  have eH := near_digits H1 eu (Nat.lt_of_le_of_lt hu (Nat.pow_lt_pow_right (by decide) (by have := hK.s1; have := hK.sp; omega))) hH0
  rw [eH] at vh
  obtain ⟨H, hH⟩ : ∃ H, H = C - D := ⟨_, rfl⟩
  rw [← hH] at vh x1 x2 x3 x4 x5
  have x1' : ((2 ^ (s + bl n - F.p) : Nat) : Int) ∣ (H : Int) := Int.natCast_dvd_natCast.2 x1
  have vl : F.val F.low (hL F K a) = (n : Int) - H := by rw [vh, va] at hsum; omega
  refine ⟨hsum, ?_, ?_, ?_, ?_⟩
  · rw [vh, ← hne, ← i2_cast]; exact x1'
  · rw [vh, ← hne, ← i2_cast]; omega
  · rw [vl, ← hne, ← i2_cast]; omega
  · rw [vl, ← hne]; intro h; have := x5 h; omega

theorem half_all (ok : F.Ok) {s K a : Nat} (hK : KOk F s K) (fa : finP F a = true) (h : (halfL F K a).all (finP F) = true) : HalfX F s K a ∧ finP F (hH F K a) = true ∧ finP F (hL F K a) = true := by
  have spl : ∀ b, (halfL F K b).all (finP F) = true → finP F (hC F K b) = true ∧ finP F (hD F K b) = true ∧ finP F (hH F K b) = true ∧ finP F (hL F K b) = true := by
    intro b h
    unfold halfL at h
    simpa only [List.all_cons, List.all_nil, Bool.and_true, Bool.and_eq_true] using h
  obtain ⟨f1, f2, f3, f4⟩ := spl a h
  refine ⟨?_, f3, f4⟩
  by_cases h0 : F.abs a = 0
  · obtain ⟨z1, z2⟩ := half_zero ok hK h0
    have v1 := (val_zero_iff ok F.low).2 z1
    have v2 := (val_zero_iff ok F.low).2 z2
    have v3 := (val_zero_iff ok F.low).2 h0
    have p1 := i2_pos (bl (F.un a))
    have p2 := i2_pos (s + bl (F.un a) - F.p)
    exact ⟨by rw [v1, v2, v3]; rfl, by rw [v1]; exact Int.dvd_zero _, by rw [v1]; omega, by rw [v2]; omega, fun _ => v2⟩
  cases na : F.neg a
  · exact half_pos ok hK fa na h0 f1 f2 f3 f4
  · have nb : F.neg (F.flip a) = false := by rw [neg_flip, na]; rfl
    have b0 : F.abs (F.flip a) ≠ 0 := by rw [abs_flip]; exact h0
    have ub : F.un (F.flip a) = F.un a := by unfold Fm.un; rw [abs_flip]
    obtain ⟨g1, t1, t2, -, -⟩ := tw_half ok (Tw.flipped (F := F) a) hK.fin fa h
    obtain ⟨h1, h2, h3, h4⟩ := spl _ g1
    obtain ⟨s1, s2, s3, s4, s5⟩ := half_pos ok hK (fin_flip' fa) nb b0 h1 h2 h3 h4
    rw [ub] at s2 s3 s4 s5
    rw [t1.val ok, t2.val ok, val_flip] at s1
    rw [t1.val ok] at s2 s3
    rw [t2.val ok] at s4 s5
    simp only [if_true] at s1 s2 s3 s4 s5
    exact ⟨by omega, Int.dvd_neg.1 s2, by omega, by omega, fun h => by have := s5 h; omega⟩

/-! ### one step -/
/-- r is the number X rounded -/
def IsR (F : Fm) (X : Int) (r : Nat) : Prop := (X = 0 → F.abs r = 0) ∧ (X ≠ 0 → ∃ s : Bool, X = (if s then -(X.natAbs : Int) else (X.natAbs : Int)) ∧ r = (intoS F 0 s X.natAbs F.low false).1)

theorem IsR.near (ok : F.Ok) {X : Int} {r : Nat} (h : IsR F X r) (fr : finP F r = true) : NearI F.p X (F.val F.low r) := by
  by_cases h0 : X = 0
  · rw [(val_zero_iff ok _).2 (h.1 h0), h0]
    exact ⟨Int.dvd_zero _, by simp [qe, bl_zero], by simp [qe, bl_zero]⟩
  · obtain ⟨s, hs, e⟩ := h.2 h0
    have hX : X.natAbs ≠ 0 := by omega
    obtain ⟨n1, n2⟩ := near_into ok s X.natAbs hX (top_of_fin ok s _ hX (by rw [← e]; exact fr))
    rw [← e] at n1 n2
    have ev : F.val F.low r = if s then -(F.un r : Int) else (F.un r : Int) := by
      unfold Fm.val; rw [n2]; rfl
    obtain ⟨d1, d2, d3⟩ := n1
    have d1' : ((2 ^ (bl X.natAbs - F.p) : Nat) : Int) ∣ (F.un r : Int) := Int.natCast_dvd_natCast.2 d1
    generalize F.un r = q at *
    unfold NearI qe
    rw [ev, ← i2_cast]
    generalize 2 ^ (bl X.natAbs - F.p) = Q at *
    cases s
    · simp only [Bool.false_eq_true, if_false] at hs ⊢
      exact ⟨d1', by omega, by omega⟩
    · simp only [if_true] at hs ⊢
      exact ⟨Int.dvd_neg.2 d1', by omega, by omega⟩

theorem IsR.fin (ok : F.Ok) {X : Int} {r : Nat} (h : IsR F X r) (hb : F.low + bl X.natAbs + 1 ≤ F.emax) : finP F r = true := by
  by_cases h0 : X = 0
  · unfold finP; rw [h.1 h0]; exact decide_eq_true (inf_pos ok)
  · obtain ⟨s, hs, e⟩ := h.2 h0
    rw [e]
    exact fin_into ok s _ (by omega) hb

theorem isR_add (ok : F.Ok) {a b : Nat} (fa : finP F a = true) (fb : finP F b = true) : IsR F (F.val F.low a + F.val F.low b) (addR F a b) := by
  refine ⟨fun h => add_zero' ok fa fb h, fun h => ?_⟩
  obtain ⟨z, hz⟩ : ∃ z, z = F.val F.low a + F.val F.low b := ⟨_, rfl⟩
  rw [← hz] at h ⊢
  obtain ⟨s, hs⟩ : ∃ s : Bool, z = if s then -(z.natAbs : Int) else (z.natAbs : Int) := by
    rcases Int.lt_trichotomy z 0 with h' | h' | h'
    · exact ⟨true, by simp; omega⟩
    · exact absurd h' h
    · exact ⟨false, by simp; omega⟩
  exact ⟨s, hs, add_pos ok fa fb (by omega) (by rw [← hz]; exact hs)⟩

theorem isR_sub (ok : F.Ok) {a b : Nat} (fa : finP F a = true) (fb : finP F b = true) : IsR F (F.val F.low a - F.val F.low b) (subR F a b) := by
  have := isR_add ok fa (fin_flip' fb)
  rw [val_flip, ← Int.sub_eq_add_neg] at this
  exact this

theorem isR_mul (ok : F.Ok) {x y : Nat} (fx : finP F x = true) (fy : finP F y = true) {X : Int} (hX : 2 ^ (-F.low).toNat * X = F.val F.low x * F.val F.low y) : IsR F X (mulR F x y) := by
  have hp : 1 ≤ F.p := by have := ok.p8; omega
  have hl := low_ge ok
  have zero_of : X = 0 ↔ (F.abs x = 0 ∨ F.abs y = 0) := by
    constructor
    · intro h
      rw [h, Int.mul_zero] at hX
      rcases Int.mul_eq_zero.1 hX.symm with h1 | h1
      · exact Or.inl ((val_zero_iff ok _).1 h1)
      · exact Or.inr ((val_zero_iff ok _).1 h1)
    · intro h
      have h2 : F.val F.low x * F.val F.low y = 0 := by
        rcases h with h | h
        · rw [(val_zero_iff ok _).2 h, Int.zero_mul]
        · rw [(val_zero_iff ok _).2 h, Int.mul_zero]
      rw [h2] at hX
      rcases Int.mul_eq_zero.1 hX with h1 | h1
      · have := i2_pos (-F.low).toNat; omega
      · exact h1
  unfold mulR
  rw [mulS_fin fx fy]
  refine ⟨fun h => ?_, fun h => ?_⟩
  · have e : (F.isZero x || F.isZero y) = true := by
      unfold Fm.isZero
      rcases zero_of.1 h with h1 | h1 <;> simp [h1]
    rw [if_pos e]
    exact sg_zero ok _
  · have nx : F.abs x ≠ 0 := fun h1 => h (zero_of.2 (Or.inl h1))
    have ny : F.abs y ≠ 0 := fun h1 => h (zero_of.2 (Or.inr h1))
    have zx : F.isZero x = false := by unfold Fm.isZero; simpa using nx
    have zy : F.isZero y = false := by unfold Fm.isZero; simpa using ny
    rw [zx, zy]
    simp only [Bool.or_self, Bool.false_eq_true, if_false]
    have hab : 2 ^ (-F.low).toNat * X.natAbs = F.un x * F.un y := by
      have := congrArg Int.natAbs hX
      rw [Int.natAbs_mul, Int.natAbs_mul, Int.natAbs_pow, val_abs, val_abs] at this
      exact this
    refine ⟨F.neg x != F.neg y, ?_, ?_⟩
    · have ux : 0 < F.un x := Nat.pos_of_ne_zero fun h => nx ((un_zero ok).1 h)
      have uy : 0 < F.un y := Nat.pos_of_ne_zero fun h => ny ((un_zero ok).1 h)
      have hpos : (0 : Int) < (F.un x : Int) * (F.un y : Int) := Int.mul_pos (by omega) (by omega)
      have hq := i2_pos (-F.low).toNat
      have ev : F.val F.low x * F.val F.low y = if (F.neg x != F.neg y) = true then -((F.un x : Int) * (F.un y : Int)) else (F.un x : Int) * (F.un y : Int) := by
        unfold Fm.val
        show (if _ then -(F.un x : Int) else (F.un x : Int)) * (if _ then -(F.un y : Int) else (F.un y : Int)) = _
        cases F.neg x <;> cases F.neg y <;> simp [Int.neg_mul, Int.mul_neg]
      rw [ev] at hX
      cases hs : (F.neg x != F.neg y)
      · rw [hs] at hX
        simp only [Bool.false_eq_true, if_false] at hX ⊢
        have : 0 < X := by
          rcases Int.lt_trichotomy X 0 with h1 | h1 | h1
          · have := Int.mul_neg_of_pos_of_neg hq h1; omega
          · exact absurd h1 h
          · exact h1
        omega
      · rw [hs] at hX
        simp only [if_true] at hX ⊢
        have : X < 0 := by
          rcases Int.lt_trichotomy X 0 with h1 | h1 | h1
          · exact h1
          · exact absurd h1 h
          · have := Int.mul_pos hq h1; omega
        omega
    · congr 1
      refine into_eq F 0 _ _ _ (F.ex x + F.ex y) F.low (Nat.mul_ne_zero (mag_ne hp zx) (mag_ne hp zy)) (F.low + F.low) (by have h1 : F.low ≤ F.ex x := low_xp _; have h2 : F.low ≤ F.ex y := low_xp _; omega) (by omega) ?_
      rw [uN_mul F.low F.low _ _ _ _ (show F.low ≤ F.ex x from low_xp _) (show F.low ≤ F.ex y from low_xp _)]
      show F.un x * F.un y = X.natAbs * 2 ^ (F.low - (F.low + F.low)).toNat
      rw [← hab, show F.low - (F.low + F.low) = -F.low by omega, Nat.mul_comm]

/-- a step that is exact -/
theorem IsR.exact (ok : F.Ok) {X : Int} {r : Nat} (h : IsR F X r) (hx : Fl' F.p X) (hf : finP F r = true ∨ F.low + bl X.natAbs + 1 ≤ F.emax) : finP F r = true ∧ F.val F.low r = X := by
  have fr : finP F r = true := hf.elim id (h.fin ok)
  exact ⟨fr, nearI_exact (h.near ok fr) hx⟩

/-! ### the parts of the product -/
theorem prod_parts (ok : F.Ok) {s K a b k : Nat} (hs : 1 ≤ s) (sp : s + 1 ≤ F.p) (ha : HalfX F s K a) (hb : HalfX F s K b) (hk : bl (F.un a) + bl (F.un b) = (-F.low).toNat + k + 2 * F.p) (a0 : F.un a ≠ 0) (b0 : F.un b ≠ 0) :
    ∃ HI HJ LI LJ AB : Int, 2 ^ (-F.low).toNat * HI = F.val F.low (hH F K a) * F.val F.low (hH F K b) ∧ 2 ^ (-F.low).toNat * HJ = F.val F.low (hH F K a) * F.val F.low (hL F K b) ∧
      2 ^ (-F.low).toNat * LI = F.val F.low (hL F K a) * F.val F.low (hH F K b) ∧ 2 ^ (-F.low).toNat * LJ = F.val F.low (hL F K a) * F.val F.low (hL F K b) ∧ 2 ^ (-F.low).toNat * AB = F.val F.low a * F.val F.low b ∧
      Parts F.p s k HI HJ LI LJ ∧ AB = HI + HJ + LI + LJ ∧ AB < 2 ^ (k + 2 * F.p) ∧ -AB < 2 ^ (k + 2 * F.p) ∧ (2 ^ (k + 2 * F.p - 2) ≤ AB ∨ 2 ^ (k + 2 * F.p - 2) ≤ -AB) := by
  obtain ⟨sa, da, ba, la, la0⟩ := ha
  obtain ⟨sb, db, bb, lb, lb0⟩ := hb
  have ea := val_of_un (F := F) (a := a)
  have eb := val_of_un (F := F) (a := b)
  have la2 : (2 : Int) ^ (bl (F.un a) - F.p) ∣ F.val F.low (hL F K a) := by
    have h1 : (2 : Int) ^ (bl (F.un a) - F.p) ∣ F.val F.low a := by have := val_fl ok a; unfold Fl' qe at this; rwa [val_abs] at this
    have h2 := Int.dvd_trans (i2_dvd (show bl (F.un a) - F.p ≤ s + bl (F.un a) - F.p by omega)) da
    have := Int.dvd_sub h1 h2
    rwa [show F.val F.low a - F.val F.low (hH F K a) = F.val F.low (hL F K a) by omega] at this
  have lb2 : (2 : Int) ^ (bl (F.un b) - F.p) ∣ F.val F.low (hL F K b) := by
    have h1 : (2 : Int) ^ (bl (F.un b) - F.p) ∣ F.val F.low b := by have := val_fl ok b; unfold Fl' qe at this; rwa [val_abs] at this
    have h2 := Int.dvd_trans (i2_dvd (show bl (F.un b) - F.p ≤ s + bl (F.un b) - F.p by omega)) db
    have := Int.dvd_sub h1 h2
    rwa [show F.val F.low b - F.val F.low (hH F K b) = F.val F.low (hL F K b) by omega] at this
  have ja1 := bl_ge _ a0
  have ja2 := bl_lt (F.un a)
  have ja0 := bl_pos _ a0
  have jb1 := bl_ge _ b0
  have jb2 := bl_lt (F.un b)
  have jb0 := bl_pos _ b0
  generalize F.val F.low (hH F K a) = h at *
  generalize F.val F.low (hL F K a) = l at *
  generalize F.val F.low (hH F K b) = i at *
  generalize F.val F.low (hL F K b) = j at *
  generalize F.val F.low a = va at *
  generalize F.val F.low b = vb at *
  generalize bl (F.un a) = ja at *
  generalize bl (F.un b) = jb at *
  generalize (-F.low).toNat = N at *
  generalize F.p = p at *
  -- the products are whole
  have w1 : (2 : Int) ^ (N + (k + 2 * s)) ∣ h * i := Int.dvd_trans (i2_dvd (by omega)) (i2_mul_dvd da db)
  have w2 : (2 : Int) ^ (N + (k + s)) ∣ h * j := Int.dvd_trans (i2_dvd (by omega)) (i2_mul_dvd da lb2)
  have w3 : (2 : Int) ^ (N + (k + s)) ∣ l * i := Int.dvd_trans (i2_dvd (by omega)) (i2_mul_dvd la2 db)
  have w4 : (2 : Int) ^ (N + k) ∣ l * j := Int.dvd_trans (i2_dvd (by omega)) (i2_mul_dvd la2 lb2)
  obtain ⟨HI, e1⟩ := Int.dvd_trans (i2_dvd (Nat.le_add_right _ _)) w1
  obtain ⟨HJ, e2⟩ := Int.dvd_trans (i2_dvd (Nat.le_add_right _ _)) w2
  obtain ⟨LI, e3⟩ := Int.dvd_trans (i2_dvd (Nat.le_add_right _ _)) w3
  obtain ⟨LJ, e4⟩ := Int.dvd_trans (i2_dvd (Nat.le_add_right _ _)) w4
  -- bounds of products
  have bound : ∀ {x y : Int} {c d : Nat}, x ≤ 2 ^ c → -x ≤ 2 ^ c → y ≤ 2 ^ d → -y ≤ 2 ^ d → x * y ≤ 2 ^ (c + d) ∧ -(x * y) ≤ 2 ^ (c + d) := by
    intro x y c d x1 x2 y1 y2
    have hx : x.natAbs ≤ 2 ^ c := by rw [← i2_cast] at x1 x2; omega
    have hy : y.natAbs ≤ 2 ^ d := by rw [← i2_cast] at y1 y2; omega
    have hxy : (x * y).natAbs ≤ 2 ^ (c + d) := by rw [Int.natAbs_mul, Nat.pow_add]; exact Nat.mul_le_mul hx hy
    rw [← i2_cast]
    omega
  have cancel : ∀ {X y : Int} {c : Nat}, y = 2 ^ N * X → (y ≤ 2 ^ (N + c) ∧ -y ≤ 2 ^ (N + c)) → X ≤ 2 ^ c ∧ -X ≤ 2 ^ c := by
    intro X y c e hh
    rw [e] at hh
    refine ⟨i2_cancel_le hh.1, i2_cancel_le (N := N) ?_⟩
    rw [Int.mul_neg]; exact hh.2
  have lbd : ∀ {x : Int} {c : Nat}, (2 * x ≤ 2 ^ (s + c - p) ∧ -(2 * x) ≤ 2 ^ (s + c - p)) → p < s + c → x ≤ 2 ^ (s + c - p - 1) ∧ -x ≤ 2 ^ (s + c - p - 1) := by
    intro x c hh hc
    have e : (2 : Int) ^ (s + c - p) = 2 ^ (s + c - p - 1) * 2 := by rw [← i2_succ]; congr 1; omega
    omega
  have B1 := cancel (c := k + 2 * p) e1 (by rw [show N + (k + 2 * p) = ja + jb by omega]; exact bound ba.1 ba.2 bb.1 bb.2)
  have B2 : HJ ≤ 2 ^ (k + p + s - 1) ∧ -HJ ≤ 2 ^ (k + p + s - 1) := by
    rcases Nat.lt_or_ge p (s + jb) with hc | hc
    · obtain ⟨y1, y2⟩ := lbd lb hc
      exact cancel e2 (by rw [show N + (k + p + s - 1) = ja + (s + jb - p - 1) by omega]; exact bound ba.1 ba.2 y1 y2)
    · have := lb0 hc
      exact cancel e2 (by rw [this, Int.mul_zero]; have := i2_pos (N + (k + p + s - 1)); omega)
  have B3 : LI ≤ 2 ^ (k + p + s - 1) ∧ -LI ≤ 2 ^ (k + p + s - 1) := by
    rcases Nat.lt_or_ge p (s + ja) with hc | hc
    · obtain ⟨y1, y2⟩ := lbd la hc
      exact cancel e3 (by rw [show N + (k + p + s - 1) = (s + ja - p - 1) + jb by omega]; exact bound y1 y2 bb.1 bb.2)
    · have := la0 hc
      exact cancel e3 (by rw [this, Int.zero_mul]; have := i2_pos (N + (k + p + s - 1)); omega)
  have B4 : LJ ≤ 2 ^ (k + 2 * s - 2) ∧ -LJ ≤ 2 ^ (k + 2 * s - 2) := by
    rcases Nat.lt_or_ge p (s + ja) with hc | hc
    · rcases Nat.lt_or_ge p (s + jb) with hd | hd
      · obtain ⟨x1, x2⟩ := lbd la hc
        obtain ⟨y1, y2⟩ := lbd lb hd
        exact cancel e4 (by rw [show N + (k + 2 * s - 2) = (s + ja - p - 1) + (s + jb - p - 1) by omega]; exact bound x1 x2 y1 y2)
      · have := lb0 hd
        exact cancel e4 (by rw [this, Int.mul_zero]; have := i2_pos (N + (k + 2 * s - 2)); omega)
    · have := la0 hc
      exact cancel e4 (by rw [this, Int.zero_mul]; have := i2_pos (N + (k + 2 * s - 2)); omega)
  have eAB : 2 ^ N * (HI + HJ + LI + LJ) = va * vb := by
    rw [Int.mul_add, Int.mul_add, Int.mul_add, ← e1, ← e2, ← e3, ← e4, ← sa, ← sb, Int.add_mul, Int.mul_add, Int.mul_add]
    omega
  have nAB : (va * vb).natAbs = F.un a * F.un b := by
    rw [Int.natAbs_mul]
    congr 1 <;> omega
  have up : F.un a * F.un b < 2 ^ (N + (k + 2 * p)) := by
    rw [show N + (k + 2 * p) = ja + jb by omega, Nat.pow_add]
    exact Nat.mul_lt_mul_of_lt_of_lt ja2 jb2
  have lo : 2 ^ (N + (k + 2 * p - 2)) ≤ F.un a * F.un b := by
    rw [show N + (k + 2 * p - 2) = (ja - 1) + (jb - 1) by omega, Nat.pow_add]
    exact Nat.mul_le_mul ja1 jb1
  obtain ⟨AB, hAB⟩ : ∃ AB, AB = HI + HJ + LI + LJ := ⟨_, rfl⟩
  rw [← hAB] at eAB
  refine ⟨HI, HJ, LI, LJ, AB, e1.symm, e2.symm, e3.symm, e4.symm, eAB, ⟨i2_cancel (N := N) (by rw [← e1]; exact w1), i2_cancel (N := N) (by rw [← e2]; exact w2), i2_cancel (N := N) (by rw [← e3]; exact w3), i2_cancel (N := N) (by rw [← e4]; exact w4), B1, B2, B3, B4⟩, hAB, ?_, ?_, ?_⟩
  · refine i2_cancel_lt (N := N) ?_
    rw [eAB, ← i2_cast]; omega
  · refine i2_cancel_lt (N := N) ?_
    rw [Int.mul_neg, eAB, ← i2_cast]; omega
  · have e : ∀ {x : Int}, 2 ^ (N + (k + 2 * p - 2)) ≤ 2 ^ N * x → 2 ^ (k + 2 * p - 2) ≤ x := by
      intro x hx
      rw [Int.pow_add] at hx
      exact Int.le_of_mul_le_mul_left hx (i2_pos N)
    have hh : (2 : Int) ^ (N + (k + 2 * p - 2)) ≤ 2 ^ N * AB ∨ 2 ^ (N + (k + 2 * p - 2)) ≤ 2 ^ N * -AB := by
      rw [Int.mul_neg, eAB, ← i2_cast]
      omega
    rcases hh with hh | hh
    · exact Or.inl (e hh)
    · exact Or.inr (e hh)

end
end Go.Proofs.YtlibhfojfonfjaaGreatDoor
