/- The arithmetic of layer 2's loops. -/
import Derived.Test.YtcgceigmglikpaaDoorNum
namespace Go.Proofs.YtcgceigmglikpaaDoor
set_option linter.unusedVariables false

/-- behind j rounds of the sum -/
def AddInv (N M S c j : Nat) : Prop := c ≤ 1 ∧ S / 2 ^ (64 * j) = N / 2 ^ (64 * j) ∧ S % 2 ^ (64 * j) + c * 2 ^ (64 * j) = N % 2 ^ (64 * j) + M % 2 ^ (64 * j)

theorem AddInv.start (N M : Nat) : AddInv N M N 0 0 := ⟨by omega, rfl, by simp [Nat.mod_one]⟩

theorem setDg_mod_succ (k N i d : Nat) (hd : d < 2 ^ k) : setDg k N i d % 2 ^ (k * (i + 1)) = N % 2 ^ (k * i) + d * 2 ^ (k * i) := by
  rw [mod_succ, setDg_mod, dg_setDg_same k N i d hd]

theorem AddInv.step {N M S c j : Nat} (h : AddInv N M S c j) :
    AddInv N M (setDg 64 S j ((dg 64 N j + dg 64 M j + c) % 18446744073709551616)) ((dg 64 N j + dg 64 M j + c) / 18446744073709551616) (j + 1) := by
  obtain ⟨h0, h1, h2⟩ := h
  have hx := dg64_lt N j
  have hy := dg64_lt M j
  have hd : (dg 64 N j + dg 64 M j + c) % 18446744073709551616 < 2 ^ 64 := Nat.mod_lt _ (by decide)
  refine ⟨by omega, ?_, ?_⟩
  · rw [setDg_div _ _ _ _ hd, pow_succ_mul, ← Nat.div_div_eq_div_mul, h1, Nat.div_div_eq_div_mul]
  · rw [setDg_mod_succ _ _ _ _ hd, mod_succ 64 N, mod_succ 64 M, pow_succ_mul]
    generalize dg 64 N j = x at *
    generalize dg 64 M j = y at *
    have e : (x + y + c) = 18446744073709551616 * ((x + y + c) / 18446744073709551616) + (x + y + c) % 18446744073709551616 := (Nat.div_add_mod _ _).symm
    generalize (x + y + c) / 18446744073709551616 = q at *
    generalize (x + y + c) % 18446744073709551616 = r at *
    rw [show (2 : Nat) ^ 64 = 18446744073709551616 from rfl]
    generalize 2 ^ (64 * j) = P at *
    have e2 : (x + y + c) * P = (18446744073709551616 * q + r) * P := by rw [← e]
    grind

theorem AddInv.last {N M S c j : Nat} (h : AddInv N M S c j) (hN : N < 2 ^ (64 * j)) (hM : M < 2 ^ (64 * j)) : setDg 64 S j c = N + M := by
  obtain ⟨h0, h1, h2⟩ := h
  rw [Nat.div_eq_of_lt hN] at h1
  have hS : S < 2 ^ (64 * j) := by
    rcases Nat.lt_or_ge S (2 ^ (64 * j)) with h | h
    · exact h
    · have := Nat.div_pos h (pow_pos2 _); omega
  rw [Nat.mod_eq_of_lt hN, Nat.mod_eq_of_lt hM, Nat.mod_eq_of_lt hS] at h2
  have := setDg_add 64 S j c
  rw [dg_high 64 S j j hS (Nat.le_refl _)] at this
  omega

/-- behind j rounds of the difference -/
def SubInv (N M S c j : Nat) : Prop := c ≤ 1 ∧ S / 2 ^ (64 * j) = N / 2 ^ (64 * j) ∧ S % 2 ^ (64 * j) + M % 2 ^ (64 * j) = N % 2 ^ (64 * j) + c * 2 ^ (64 * j)

theorem SubInv.start (N M : Nat) : SubInv N M N 0 0 := ⟨by omega, rfl, by simp [Nat.mod_one]⟩

theorem SubInv.step {N M S c j : Nat} (h : SubInv N M S c j) :
    SubInv N M (setDg 64 S j ((dg 64 N j + 18446744073709551616 - dg 64 M j - c) % 18446744073709551616)) (if dg 64 N j < dg 64 M j + c then 1 else 0) (j + 1) := by
  obtain ⟨h0, h1, h2⟩ := h
  have hx := dg64_lt N j
  have hy := dg64_lt M j
  have hd : (dg 64 N j + 18446744073709551616 - dg 64 M j - c) % 18446744073709551616 < 2 ^ 64 := Nat.mod_lt _ (by decide)
  refine ⟨by split <;> omega, ?_, ?_⟩
  · rw [setDg_div _ _ _ _ hd, pow_succ_mul, ← Nat.div_div_eq_div_mul, h1, Nat.div_div_eq_div_mul]
  · rw [setDg_mod_succ _ _ _ _ hd, mod_succ 64 N, mod_succ 64 M, pow_succ_mul]
    generalize dg 64 N j = x at *
    generalize dg 64 M j = y at *
    have e : (x + 18446744073709551616 - y - c) % 18446744073709551616 + y + c = x + 18446744073709551616 * (if x < y + c then 1 else 0) := by
      split <;> omega
    generalize (x + 18446744073709551616 - y - c) % 18446744073709551616 = r at *
    generalize (if x < y + c then 1 else 0 : Nat) = q at *
    rw [show (2 : Nat) ^ 64 = 18446744073709551616 from rfl]
    generalize 2 ^ (64 * j) = P at *
    have e2 : (r + y + c) * P = (x + 18446744073709551616 * q) * P := by rw [← e]
    grind

theorem SubInv.last {N M S c j : Nat} (h : SubInv N M S c j) (hN : N < 2 ^ (64 * j)) (hM : M < 2 ^ (64 * j)) (hle : M ≤ N) : S = N - M := by
  obtain ⟨h0, h1, h2⟩ := h
  rw [Nat.div_eq_of_lt hN] at h1
  have hS : S < 2 ^ (64 * j) := by
    rcases Nat.lt_or_ge S (2 ^ (64 * j)) with h | h
    · exact h
    · have := Nat.div_pos h (pow_pos2 _); omega
  rw [Nat.mod_eq_of_lt hN, Nat.mod_eq_of_lt hM, Nat.mod_eq_of_lt hS] at h2
  have : c = 0 ∨ c = 1 := by omega
  rcases this with rfl | rfl <;> omega

/-- a digit of what is shifted right by s bits: out of two digits -/
theorem shr_digit (N w s i : Nat) (hs : s < 64) :
    dg 64 (N / 2 ^ (64 * w + s)) i = dg 64 N (w + i) / 2 ^ s + dg 64 N (w + i + 1) * 2 ^ (64 - s) % 2 ^ 64 := by
  have e1 : N / 2 ^ (64 * w + s) / 2 ^ (64 * i) = N / 2 ^ (64 * (w + i)) / 2 ^ s := by
    rw [Nat.div_div_eq_div_mul, Nat.div_div_eq_div_mul, ← Nat.pow_add, ← Nat.pow_add]; congr 2; omega
  have e2 : dg 64 N (w + i + 1) = N / 2 ^ (64 * (w + i)) / 2 ^ 64 % 2 ^ 64 := by
    unfold dg; rw [Nat.div_div_eq_div_mul, ← Nat.pow_add]; rfl
  have e3 : dg 64 N (w + i) = N / 2 ^ (64 * (w + i)) % 2 ^ 64 := rfl
  rw [e2, e3]
  unfold dg
  rw [e1]
  generalize N / 2 ^ (64 * (w + i)) = Q
  obtain ⟨t, ht⟩ : ∃ t, 64 = s + t := ⟨64 - s, by omega⟩
  have ht' : 64 - s = t := by omega
  rw [ht', ht]
  have h1 : Q = Q / 2 ^ (s + t) * 2 ^ (s + t) + Q % 2 ^ (s + t) := by rw [Nat.mul_comm]; exact (Nat.div_add_mod _ _).symm
  have hR : Q / 2 ^ (s + t) % 2 ^ (s + t) * 2 ^ t % 2 ^ (s + t) = Q / 2 ^ (s + t) % 2 ^ s * 2 ^ t := by
    rw [Nat.pow_add, Nat.mul_mod_mul_right]
    congr 1
    rw [Nat.mod_mul_right_mod]
  rw [hR]
  generalize Q / 2 ^ (s + t) = R at *
  have hx : Q % 2 ^ (s + t) < 2 ^ (s + t) := Nat.mod_lt _ (pow_pos2 _)
  generalize Q % 2 ^ (s + t) = x at *
  have h2 : Q / 2 ^ s = R * 2 ^ t + x / 2 ^ s := by
    rw [h1, Nat.pow_add, show R * (2 ^ s * 2 ^ t) + x = x + 2 ^ s * (R * 2 ^ t) from by grind, Nat.add_mul_div_left _ _ (pow_pos2 s)]
    omega
  rw [h2]
  have hxs : x / 2 ^ s < 2 ^ t := by
    rw [Nat.div_lt_iff_lt_mul (pow_pos2 s), Nat.mul_comm, ← Nat.pow_add]; exact hx
  have h3 : R = R / 2 ^ s * 2 ^ s + R % 2 ^ s := by rw [Nat.mul_comm]; exact (Nat.div_add_mod _ _).symm
  have h4 : R * 2 ^ t + x / 2 ^ s = (R % 2 ^ s * 2 ^ t + x / 2 ^ s) + R / 2 ^ s * 2 ^ (s + t) := by
    rw [Nat.pow_add]
    generalize R / 2 ^ s = r1 at *
    generalize R % 2 ^ s = r2 at *
    rw [h3]; grind
  rw [h4, Nat.add_mul_mod_self_right, Nat.mod_eq_of_lt, Nat.add_comm]
  have h5 : R % 2 ^ s < 2 ^ s := Nat.mod_lt _ (pow_pos2 s)
  have h6 : (R % 2 ^ s + 1) * 2 ^ t ≤ 2 ^ s * 2 ^ t := Nat.mul_le_mul_right _ h5
  rw [Nat.pow_add]
  rw [Nat.add_mul] at h6
  omega

theorem or_parts (x y s : Nat) (hs : s < 64) (hx : x < 2 ^ 64) : (x / 2 ^ s) ||| (y * 2 ^ (64 - s) % 2 ^ 64) = x / 2 ^ s + y * 2 ^ (64 - s) % 2 ^ 64 := by
  obtain ⟨t, ht⟩ : ∃ t, 64 = s + t := ⟨64 - s, by omega⟩
  have ht' : 64 - s = t := by omega
  rw [ht] at hx
  rw [ht', ht]
  have e : y * 2 ^ t % 2 ^ (s + t) = 2 ^ t * (y % 2 ^ s) := by rw [Nat.pow_add, Nat.mul_mod_mul_right, Nat.mul_comm]
  rw [e]
  have hxs : x / 2 ^ s < 2 ^ t := by
    rw [Nat.div_lt_iff_lt_mul (pow_pos2 s), Nat.mul_comm, ← Nat.pow_add]; exact hx
  rw [Nat.or_comm, ← Nat.two_pow_add_eq_or_of_lt hxs, Nat.add_comm]

theorem setDg_setDg (k N i d e : Nat) (hd : d < 2 ^ k) : setDg k (setDg k N i d) i e = setDg k N i e := by
  have h1 := setDg_add k (setDg k N i d) i e
  rw [dg_setDg_same k N i d hd] at h1
  have h2 := setDg_add k N i d
  have h3 := setDg_add k N i e
  omega

/-- the lowest j digits of R stand; the next one is put -/
theorem setDg_build (k R j : Nat) : setDg k (R % 2 ^ (k * j)) j (dg k R j) = R % 2 ^ (k * (j + 1)) := by
  have h1 := setDg_add k (R % 2 ^ (k * j)) j (dg k R j)
  rw [dg_high k _ j j (Nat.mod_lt _ (pow_pos2 _)) (Nat.le_refl _)] at h1
  rw [mod_succ]; omega

theorem wrap_u64_nat (x : Nat) : IntKind.u64.wrap (x : Int) = ((x % 18446744073709551616 : Nat) : Int) := by
  rw [IntKind.wrap_u64]; omega

theorem wrap_shl_nat (y t : Nat) : IntKind.u64.wrap ((y : Int) * 2 ^ t) = ((y * 2 ^ t % 18446744073709551616 : Nat) : Int) := by
  rw [← wrap_u64_nat]; simp

theorem or_nat (x y : Nat) (hx : x < 18446744073709551616) (hy : y < 18446744073709551616) : bits .or .u64 (x : Int) (y : Int) = ((x ||| y : Nat) : Int) := bits_or_u64_nat x y hx hy

theorem right_step (N q r j d1 : Nat) (hr : r < 64) (hd1 : d1 = dg 64 N (q + j) / 2 ^ r) :
    bits .or .u64 (d1 : Int) (IntKind.u64.wrap ((dg 64 N (q + j + 1) : Int) * 2 ^ (64 - r))) = ((dg 64 (N / 2 ^ (64 * q + r)) j : Nat) : Int) := by
  have hx := dg64_lt N (q + j)
  rw [wrap_shl_nat, or_nat _ _ (by rw [hd1]; exact Nat.lt_of_le_of_lt (Nat.div_le_self _ _) hx) (Nat.mod_lt _ (by decide)), shr_digit N q r j hr, hd1]
  congr 1
  exact or_parts _ _ r hr hx

/-- the product under way: behind i rounds, and j of the next -/
def ProdInv (N M b P i j c : Nat) : Prop := P + c * 2 ^ (64 * (i + j)) = N % 2 ^ (64 * i) * M + dg 64 N i * (M % 2 ^ (64 * j)) * 2 ^ (64 * i) ∧ c < 18446744073709551616 ∧ P < 2 ^ (64 * (i + b))

theorem ProdInv.start (N M b P i : Nat) (h : P = N % 2 ^ (64 * i) * M) (hM : M < 2 ^ (64 * b)) : ProdInv N M b P i 0 0 := by
  refine ⟨by simp [Nat.mod_one, h], by omega, ?_⟩
  rw [h, Nat.mul_add, Nat.pow_add]
  have h1 : N % 2 ^ (64 * i) < 2 ^ (64 * i) := Nat.mod_lt _ (pow_pos2 _)
  have h2 := Nat.mul_le_mul h1 (Nat.le_of_lt hM)
  rcases Nat.eq_zero_or_pos M with rfl | hp
  · simp; exact Nat.mul_pos (pow_pos2 _) (pow_pos2 _)
  · rw [Nat.succ_mul] at h2; omega

theorem ProdInv.step {N M b P i j c t : Nat} (h : ProdInv N M b P i j c) (hj : j < b) (ht : t = dg 64 N i * dg 64 M j + dg 64 P (i + j) + c) :
    ProdInv N M b (setDg 64 P (i + j) (t % 18446744073709551616)) i (j + 1) (t / 18446744073709551616) := by
  obtain ⟨h1, h2, h3⟩ := h
  have hd : t % 18446744073709551616 < 2 ^ 64 := Nat.mod_lt _ (by decide)
  have hx := dg64_lt N i
  have hy := dg64_lt M j
  have hp := dg64_lt P (i + j)
  refine ⟨?_, ?_, setDg_lt 64 _ _ _ _ h3 (by omega) hd⟩
  · have e1 := setDg_add 64 P (i + j) (t % 18446744073709551616)
    rw [mod_succ 64 M j, show i + (j + 1) = (i + j) + 1 from rfl, pow_succ_mul]
    have e2 : t = 18446744073709551616 * (t / 18446744073709551616) + t % 18446744073709551616 := (Nat.div_add_mod _ _).symm
    have e3 : 2 ^ (64 * (i + j)) = 2 ^ (64 * i) * 2 ^ (64 * j) := by rw [Nat.mul_add, Nat.pow_add]
    generalize setDg 64 P (i + j) (t % 18446744073709551616) = P' at *
    generalize dg 64 P (i + j) = p at *
    generalize dg 64 N i = x at *
    generalize dg 64 M j = y at *
    generalize t / 18446744073709551616 = q at *
    generalize t % 18446744073709551616 = r at *
    rw [show (2 : Nat) ^ 64 = 18446744073709551616 from rfl]
    rw [e3] at *
    generalize 2 ^ (64 * i) = A at *
    generalize 2 ^ (64 * j) = B at *
    generalize M % B = m at *
    generalize N % A * M = k at *
    have e4 : t * (A * B) = (18446744073709551616 * q + r) * (A * B) := by rw [← e2]
    rw [ht] at e4
    grind
  · have hxy : dg 64 N i * dg 64 M j ≤ 18446744073709551615 * 18446744073709551615 := Nat.mul_le_mul (by omega) (by omega)
    rw [Nat.div_lt_iff_lt_mul (by decide)]
    omega

theorem ProdInv.last {N M b P i c : Nat} (h : ProdInv N M b P i b c) (hM : M < 2 ^ (64 * b)) : setDg 64 P (i + b) c = N % 2 ^ (64 * (i + 1)) * M := by
  obtain ⟨h1, h2, h3⟩ := h
  have e1 := setDg_add 64 P (i + b) c
  rw [dg_high 64 P (i + b) (i + b) h3 (Nat.le_refl _)] at e1
  rw [Nat.mod_eq_of_lt hM] at h1
  rw [mod_succ]
  generalize 2 ^ (64 * (i + b)) = A at *
  grind

/-- the steps of the product at one place -/
theorem prod_digit (x y p c hi lo l1 c1 l2 c2 t : Nat) (hx : x < 18446744073709551616) (hy : y < 18446744073709551616) (hp : p < 18446744073709551616) (hc : c < 18446744073709551616)
    (h0 : hi = x * y / 18446744073709551616) (h0' : lo = x * y % 18446744073709551616) (h1 : lo + p = l1 + c1 * 18446744073709551616) (h2 : l1 + c = l2 + c2 * 18446744073709551616) (hl1 : l1 < 18446744073709551616) (hl2 : l2 < 18446744073709551616)
    (ht : t = x * y + p + c) : l2 = t % 18446744073709551616 ∧ hi + c1 + c2 = t / 18446744073709551616 ∧ hi + c1 + c2 < 18446744073709551616 ∧ hi + c1 < 18446744073709551616 := by
  have hxy : x * y ≤ 18446744073709551615 * 18446744073709551615 := Nat.mul_le_mul (by omega) (by omega)
  generalize x * y = z at *
  omega

theorem dg_shift (k S q j : Nat) : dg k (S * 2 ^ (k * q)) (q + j) = dg k S j := by
  unfold dg
  rw [Nat.mul_add, Nat.pow_add, Nat.mul_comm S, Nat.mul_div_mul_left _ _ (pow_pos2 _)]

/-- one round of the raising -/
theorem raise_step (N q r j : Nat) (hr : r < 64) :
    setDg 64 (setDg 64 (N % 2 ^ (64 * j) * 2 ^ (64 * q + r)) (q + j) (dg 64 (N % 2 ^ (64 * j) * 2 ^ (64 * q + r)) (q + j) ||| (dg 64 N j * 2 ^ r % 18446744073709551616))) (q + j + 1) (dg 64 N j / 2 ^ (64 - r))
      = N % 2 ^ (64 * (j + 1)) * 2 ^ (64 * q + r) ∧
    dg 64 (N % 2 ^ (64 * j) * 2 ^ (64 * q + r)) (q + j) ||| (dg 64 N j * 2 ^ r % 18446744073709551616) < 18446744073709551616 ∧
    dg 64 (setDg 64 (N % 2 ^ (64 * j) * 2 ^ (64 * q + r)) (q + j) (dg 64 (N % 2 ^ (64 * j) * 2 ^ (64 * q + r)) (q + j) ||| (dg 64 N j * 2 ^ r % 18446744073709551616))) (q + j + 1) = 0 := by
  have hx := dg64_lt N j
  have hm := Nat.mod_lt N (pow_pos2 (64 * j))
  have hP : (2 : Nat) ^ (64 * q + r) = 2 ^ (64 * q) * 2 ^ r := Nat.pow_add _ _ _
  obtain ⟨t, ht⟩ : ∃ t, 64 = r + t := ⟨64 - r, by omega⟩
  have ht' : 64 - r = t := by omega
  have h64 : (18446744073709551616 : Nat) = 2 ^ t * 2 ^ r := by rw [← Nat.pow_add, show t + r = 64 from by omega]
  -- the digit that stands there
  have hp : dg 64 (N % 2 ^ (64 * j) * 2 ^ (64 * q + r)) (q + j) < 2 ^ r := by
    have e : N % 2 ^ (64 * j) * 2 ^ (64 * q + r) = N % 2 ^ (64 * j) * 2 ^ r * 2 ^ (64 * q) := by rw [hP]; grind
    rw [e, dg_shift]
    unfold dg
    refine Nat.lt_of_le_of_lt (Nat.mod_le _ _) ?_
    rw [Nat.div_lt_iff_lt_mul (pow_pos2 _), Nat.mul_comm (2 ^ r)]
    exact Nat.mul_lt_mul_of_pos_right hm (pow_pos2 r)
  have hhigh : dg 64 (N % 2 ^ (64 * j) * 2 ^ (64 * q + r)) (q + j + 1) = 0 := by
    refine dg_high 64 _ _ (q + j + 1) ?_ (Nat.le_refl _)
    rw [hP, show 64 * (q + j + 1) = 64 * q + 64 * j + 64 from by omega, Nat.pow_add, Nat.pow_add]
    have h1 : N % 2 ^ (64 * j) * 2 ^ r < 2 ^ (64 * j) * 2 ^ 64 := by
      have h2 := Nat.mul_lt_mul_of_pos_right hm (pow_pos2 r)
      have h3 : 2 ^ (64 * j) * 2 ^ r ≤ 2 ^ (64 * j) * 2 ^ 64 := Nat.mul_le_mul_left _ (Nat.pow_le_pow_right (by decide) (by omega))
      omega
    have h4 := Nat.mul_lt_mul_of_pos_right h1 (pow_pos2 (64 * q))
    generalize 2 ^ (64 * q) = a at *
    generalize 2 ^ (64 * j) = b at *
    generalize 2 ^ r = c at *
    grind
  have hor : dg 64 (N % 2 ^ (64 * j) * 2 ^ (64 * q + r)) (q + j) ||| (dg 64 N j * 2 ^ r % 18446744073709551616) = dg 64 (N % 2 ^ (64 * j) * 2 ^ (64 * q + r)) (q + j) + dg 64 N j * 2 ^ r % 18446744073709551616 := by
    have e : dg 64 N j * 2 ^ r % 18446744073709551616 = 2 ^ r * (dg 64 N j % 2 ^ t) := by rw [h64, Nat.mul_mod_mul_right, Nat.mul_comm]
    rw [e, Nat.or_comm, ← Nat.two_pow_add_eq_or_of_lt hp, Nat.add_comm]
  have hlt : dg 64 (N % 2 ^ (64 * j) * 2 ^ (64 * q + r)) (q + j) ||| (dg 64 N j * 2 ^ r % 18446744073709551616) < 18446744073709551616 := by
    rw [hor]
    have e : dg 64 N j * 2 ^ r % 18446744073709551616 = dg 64 N j % 2 ^ t * 2 ^ r := by rw [h64, Nat.mul_mod_mul_right]
    have h2 : dg 64 N j % 2 ^ t < 2 ^ t := Nat.mod_lt _ (pow_pos2 t)
    have h3 : (dg 64 N j % 2 ^ t + 1) * 2 ^ r ≤ 2 ^ t * 2 ^ r := Nat.mul_le_mul_right _ h2
    rw [e, h64]
    rw [Nat.add_mul] at h3
    omega
  have hz : dg 64 (setDg 64 (N % 2 ^ (64 * j) * 2 ^ (64 * q + r)) (q + j) (dg 64 (N % 2 ^ (64 * j) * 2 ^ (64 * q + r)) (q + j) ||| (dg 64 N j * 2 ^ r % 18446744073709551616))) (q + j + 1) = 0 := by
    rw [dg_setDg_other 64 _ _ _ _ hlt (by omega), hhigh]
  refine ⟨?_, hlt, hz⟩
  have e1 := setDg_add 64 (N % 2 ^ (64 * j) * 2 ^ (64 * q + r)) (q + j) (dg 64 (N % 2 ^ (64 * j) * 2 ^ (64 * q + r)) (q + j) ||| (dg 64 N j * 2 ^ r % 18446744073709551616))
  have e2 := setDg_add 64 (setDg 64 (N % 2 ^ (64 * j) * 2 ^ (64 * q + r)) (q + j) (dg 64 (N % 2 ^ (64 * j) * 2 ^ (64 * q + r)) (q + j) ||| (dg 64 N j * 2 ^ r % 18446744073709551616))) (q + j + 1) (dg 64 N j / 2 ^ (64 - r))
  rw [hz] at e2
  rw [hor] at e1 e2 ⊢
  rw [mod_succ]
  have e3 : dg 64 N j / 2 ^ (64 - r) = dg 64 N j * 2 ^ r / 18446744073709551616 := by
    rw [h64, ht', Nat.mul_div_mul_right _ _ (pow_pos2 r)]
  have e4 : dg 64 N j * 2 ^ r = 18446744073709551616 * (dg 64 N j * 2 ^ r / 18446744073709551616) + dg 64 N j * 2 ^ r % 18446744073709551616 := (Nat.div_add_mod _ _).symm
  rw [e3] at e2 ⊢
  have e5 : 2 ^ (64 * (q + j + 1)) = 2 ^ (64 * q) * 2 ^ (64 * j) * 18446744073709551616 := by
    rw [show 64 * (q + j + 1) = 64 * q + 64 * j + 64 from by omega, Nat.pow_add, Nat.pow_add]
  have e6 : 2 ^ (64 * (q + j)) = 2 ^ (64 * q) * 2 ^ (64 * j) := by rw [Nat.mul_add, Nat.pow_add]
  rw [e5] at e2
  rw [e6] at e1
  generalize dg 64 (N % 2 ^ (64 * j) * 2 ^ (64 * q + r)) (q + j) = p at *
  generalize setDg 64 (N % 2 ^ (64 * j) * 2 ^ (64 * q + r)) (q + j) (p + dg 64 N j * 2 ^ r % 18446744073709551616) = S1 at *
  generalize setDg 64 S1 (q + j + 1) (dg 64 N j * 2 ^ r / 18446744073709551616) = S2 at *
  rw [hP] at *
  generalize dg 64 N j * 2 ^ r / 18446744073709551616 = hi at *
  generalize dg 64 N j * 2 ^ r % 18446744073709551616 = lo at *
  generalize N % 2 ^ (64 * j) = n0 at *
  generalize dg 64 N j = x at *
  generalize 2 ^ (64 * q) = Q at *
  generalize 2 ^ (64 * j) = J at *
  generalize 2 ^ r = R at *
  have e7 : x * R * (Q * J) = (18446744073709551616 * hi + lo) * (Q * J) := by rw [← e4]
  grind

theorem setDg_self (k N i : Nat) (h : dg k N i = 0) : setDg k N i 0 = N := by
  have := setDg_add k N i 0
  rw [h] at this; omega

end Go.Proofs.YtcgceigmglikpaaDoor
