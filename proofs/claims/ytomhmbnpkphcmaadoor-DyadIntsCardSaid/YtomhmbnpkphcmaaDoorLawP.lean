/- The plain laws of exact numbers: what the calls answer, in units of 2^L. -/
import Derived.Test.YtomhmbnpkphcmaaDoorDyadL
namespace Go.Proofs.YtomhmbnpkphcmaaDoor
set_option linter.unusedVariables false

/-- an answer without an error: canonical, within the limits, of that value -/
def Res (r : D × Int) (L x : Int) : Prop := r.2 = 0 → (r.1.can ∧ nd 64 r.1.n ≤ 1024 ∧ -40000 ≤ r.1.e ∧ r.1.e ≤ 40000 ∧ r.1.i L = x)

theorem ansD_res (d : D) (L : Int) (h : L ≤ d.e) : Res (ansD d) L (d.i L) := by
  intro h0
  unfold ansD at *
  split at h0
  · simp at h0
  · rename_i h1
    rw [if_neg h1]
    split at h0
    · simp at h0
    · rename_i h2
      rw [if_neg h2]
      refine ⟨oddD_can d, ?_, ?_, ?_, i_odd d L h⟩
      · show nd 64 (oddD d).n ≤ 1024; omega
      · show -40000 ≤ (oddD d).e; omega
      · show (oddD d).e ≤ 40000; omega

theorem res_ref {r : D × Int} {L x : Int} (h : Res r L x) (h0 : r.2 = 0) : refD (nd 64 r.1.n) r.1.e = 0 := by
  obtain ⟨_, h1, h2, h3, _⟩ := h h0
  unfold refD
  rw [if_neg (by omega), if_neg (by omega)]

theorem addD_res (n1 n2 : Nat) (a b : D) (L : Int) (hL : L ≤ -40000) : Res (addD n1 a n2 b) L (a.i L + b.i L) := by
  intro h0
  unfold addD at *
  split at h0
  · rename_i h
    obtain ⟨h1, h2⟩ := twoD_zero h
    have g1 := refD_zero h1
    have g2 := refD_zero h2
    rw [if_pos h]
    have l1 := oddD_low a L (by omega) (by omega)
    have l2 := oddD_low b L (by omega) (by omega)
    have h3 := ansD_res (sumD (oddD a) (oddD b)) L (sumD_low _ _ L l1 l2 (by omega)) h0
    rw [i_sum _ _ L l1 l2, i_odd a L (by omega), i_odd b L (by omega)] at h3
    exact h3
  · rename_i h
    exact absurd h0 h

theorem subD_res (n1 n2 : Nat) (a b : D) (L : Int) (hL : L ≤ -40000) : Res (subD n1 a n2 b) L (a.i L - b.i L) := by
  have h := addD_res n1 n2 a ⟨!b.s, b.n, b.e⟩ L hL
  rw [D.i_neg] at h
  exact h

theorem negD_res (n : Nat) (a : D) (L : Int) (hL : L ≤ -40000) : Res (negD n a) L (- a.i L) := by
  intro h0
  unfold negD at *
  split at h0
  · rename_i h
    have g := refD_zero h
    rw [if_pos h]
    have h3 := ansD_res ⟨!a.s, a.n, a.e⟩ L (by show L ≤ a.e; omega) h0
    rw [D.i_neg] at h3
    exact h3
  · rename_i h
    exact absurd h0 h

theorem canonD_res (n : Nat) (a : D) (L : Int) (hL : L ≤ -40000) : Res (canonD n a) L (a.i L) := by
  intro h0
  unfold canonD at *
  split at h0
  · rename_i h
    have g := refD_zero h
    rw [if_pos h]
    exact ansD_res a L (by omega) h0
  · rename_i h
    exact absurd h0 h

theorem cmpD_val (n1 n2 : Nat) (a b : D) (L : Int) (hL : L ≤ -40000) (h1 : refD n1 a.e = 0) (h2 : refD n2 b.e = 0) : cmpD n1 a n2 b = (sgI (a.i L - b.i L), 0) := by
  have g1 := refD_zero h1
  have g2 := refD_zero h2
  unfold cmpD
  rw [if_pos (by unfold twoD; rw [if_pos h1]; exact h2)]
  have l1 := oddD_low a L (by omega) (by omega)
  have l2 := oddD_low b L (by omega) (by omega)
  rw [sgD_i _ L, i_sum _ ⟨!(oddD b).s, (oddD b).n, (oddD b).e⟩ L l1 l2, D.i_neg, i_odd a L (by omega)]
  have e : D.i L ⟨(oddD b).s, (oddD b).n, (oddD b).e⟩ = b.i L := i_odd b L (by omega)
  rw [e, Int.sub_eq_add_neg]

theorem cmpD_err {n1 n2 : Nat} {a b : D} (h : (cmpD n1 a n2 b).2 ≠ 0) : (cmpD n1 a n2 b).1 = 0 ∧ (cmpD n2 b n1 a).1 = 0 ∧ (cmpD n2 b n1 a).2 ≠ 0 := by
  unfold cmpD at *
  have hne : twoD n1 a.e n2 b.e ≠ 0 := by
    intro h'; rw [if_pos h'] at h; exact h rfl
  have hne2 : twoD n2 b.e n1 a.e ≠ 0 := by
    intro h'
    obtain ⟨q1, q2⟩ := twoD_zero h'
    exact hne (by unfold twoD; rw [if_pos q2]; exact q1)
  rw [if_neg hne, if_neg hne2]
  exact ⟨rfl, rfl, hne2⟩

theorem cmpD_ok {n1 n2 : Nat} {a b : D} (h : (cmpD n1 a n2 b).2 = 0) : refD n1 a.e = 0 ∧ refD n2 b.e = 0 := by
  unfold cmpD at h
  split at h
  · rename_i h'; exact twoD_zero h'
  · rename_i h'; exact absurd h h'

theorem sgI_neg (x : Int) : sgI (-x) = - sgI x := by
  unfold sgI
  by_cases h : x = 0
  · simp [h]
  · by_cases h2 : x < 0
    · rw [if_neg (by omega), if_neg (by omega), if_neg h, if_pos h2]; rfl
    · rw [if_neg (by omega), if_pos (by omega), if_neg h, if_neg h2]

theorem sgI_range (x : Int) : -1 ≤ sgI x ∧ sgI x ≤ 1 := by
  unfold sgI; split
  · omega
  · split <;> omega

theorem clampD_range (k : Int) : -422144 ≤ clampD k ∧ clampD k ≤ 422144 := by unfold clampD; omega

theorem scaleD_res (n : Nat) (a : D) (k L : Int) (hL : L ≤ -40000) : Res (scaleD n a k) (L + clampD k) (a.i L) := by
  intro h0
  unfold scaleD at *
  split at h0
  · rename_i h
    have g := refD_zero h
    have l1 := oddD_low a L (by omega) (by omega)
    have ev := i_odd a L (by omega)
    rw [if_pos h]
    split at h0
    · rename_i hz
      rw [if_pos hz]
      have hc := oddD_can a
      have hzero : oddD a = D.zero := by
        rcases hc with hc | hc
        · exact hc
        · rw [hz] at hc; simp at hc
      rw [hzero] at ev ⊢
      rw [D.i_zero] at ev
      refine ⟨Or.inl rfl, by decide, by decide, by decide, ?_⟩
      show D.zero.i _ = _
      rw [D.i_zero]; exact ev
    · rename_i hz
      rw [if_neg hz]
      have h3 := ansD_res ⟨(oddD a).s, (oddD a).n, (oddD a).e + clampD k⟩ (L + clampD k) (by show L + clampD k ≤ (oddD a).e + clampD k; omega) h0
      have e2 : D.i (L + clampD k) ⟨(oddD a).s, (oddD a).n, (oddD a).e + clampD k⟩ = a.i L := by
        rw [← ev]
        unfold D.i
        simp only
        rw [show (oddD a).e + clampD k - (L + clampD k) = (oddD a).e - L from by omega]
      rw [e2] at h3
      exact h3
  · rename_i h
    exact absurd h0 h

end Go.Proofs.YtomhmbnpkphcmaaDoor
