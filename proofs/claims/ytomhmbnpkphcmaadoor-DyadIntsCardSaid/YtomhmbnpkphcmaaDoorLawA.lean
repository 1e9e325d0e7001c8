/- Walks of the layer's statements: words, same, odd. -/
import Derived.Test.YtomhmbnpkphcmaaDoorDyadL
namespace Go.Proofs.YtomhmbnpkphcmaaDoor
set_option linter.unusedVariables false
open Go.RowKit

/-- do they hold the same words? -/
def sameW (n m N M : Nat) : Bool := decide (n = m ∧ N = M)

theorem dg_ne_of {k n N M : Nat} (hN : N < 2 ^ (k * n)) (hM : M < 2 ^ (k * n)) (h : ∀ j, j < n → dg k N j = dg k M j) : N = M := dg_ext k n N M hN hM h

set_option maxHeartbeats 1000000 in
theorem words_any (v u : Value) (N n M m : Nat) (w : World) (hv : Rd 64 w v N n) (hu : Rd 64 w u M m) :
    Calls Tryd.prog 31 #[v, u] w fun e w' => e = .returned (.bool (sameW n m N M)) ∧ ∃ d, w' = w.drewN d := by
  have hvl := hv.lt
  have hul := hu.lt
  have hlen := hv.len
  have hlen2 := hu.len
  obtain ⟨A1, c1, rfl, hc1, hcm1⟩ := hv.form
  obtain ⟨A2, c2, rfl, hc2, hcm2⟩ := hu.form
  obtain ⟨_, _, _, hr1⟩ := hv.at_
  obtain ⟨_, _, _, hr2⟩ := hu.at_
  by_cases hnm : n = m
  · subst hnm
    have HX := Lib.hid (dg_ext 64 n N M hvl hul)
    clear hvl hul
    go_enter Tryd.func31, Tryd.ntmps31
    go_wp2
    go_loopw [5] (fun x wr => ∃ i : Nat, i ≤ n ∧ x = .int .i64 i ∧ Hid (∀ j, j < i → dg 64 N j = dg 64 M j) ∧ ∃ d, wr = w.drewN d) (fun x _ => n - (intOf x).toNat)
    case atStart => exact ⟨0, Nat.zero_le _, rfl, fun j hj => by omega, 0, rfl⟩
    case round =>
      obtain ⟨i, hi, rfl, hall, d, rfl⟩ := hrel
      by_cases hin : i < n
      · obtain ⟨b1, o1, rfl, hb1, hcell1⟩ := hr1 (by omega)
        obtain ⟨b2, o2, rfl, hb2, hcell2⟩ := hr2 (by omega)
        have hk1 : w.cell? ⟨b1, o1 + i, none⟩ = _ := hcell1 i hin
        have hk2 : w.cell? ⟨b2, o2 + i, none⟩ = _ := hcell2 i hin
        have hin1 : (i : Int) < n := by omega
        clear hr1 hr2 hcell1 hcell2
        by_cases hxy : dg 64 N i = dg 64 M i
        · have hnext : Hid (∀ j, j < i + 1 → dg 64 N j = dg 64 M j) := fun j hj => by
            rcases Nat.lt_or_ge j i with h | h
            · exact hall.out j h
            · have : j = i := by omega
              rw [this]; exact hxy
          rw [hxy] at hk1
          clear hall hxy HX
          generalize dg 64 M i = y at *
          have hb' : ((y : Int) != (y : Int)) = false := by simp
          go_wp2
          go_quiet (fail)
          go_wp2
          go_roundw
          case rel => exact ⟨i + 1, by omega, by go_num, hnext, by first | exact ⟨_, rfl⟩ | (simp only [World.drewN_drewN]; exact ⟨_, rfl⟩)⟩
          case measure => simp [intOf]; omega
        · have hne : N ≠ M := fun h => hxy (by rw [h])
          have H : Hid (sameW n n N M = false) := by show _ = _; simp [sameW, hne]
          have hb' : (((dg 64 N i : Nat) : Int) != ((dg 64 M i : Nat) : Int)) = true := by rw [bne_iff_ne]; omega
          clear hall hxy HX hne
          generalize dg 64 N i = x at *
          generalize dg 64 M i = y at *
          go_wp2
          go_quiet (fail)
          go_wp2
          go_ret
          exact ⟨by rw [H.out]; rfl, by first | exact ⟨_, rfl⟩ | (simp only [World.drewN_drewN]; exact ⟨_, rfl⟩)⟩
      · obtain rfl : i = n := by omega
        have H : Hid (sameW i i N M = true) := by show _ = _; simp [sameW, HX.out hall.out]
        clear hall HX hr1 hr2
        go_wp2
        go_ret
        exact ⟨by rw [H.out]; rfl, d, rfl⟩
  · have H : Hid (sameW n m N M = false) := by show _ = _; simp [sameW, hnm]
    have hb' : ((n : Int) != (m : Int)) = true := by rw [bne_iff_ne]; omega
    have hb2 : ((n : Int) == (m : Int)) = false := by rw [beq_eq_false_iff_ne]; omega
    clear hr1 hr2
    go_enter Tryd.func31, Tryd.ntmps31
    go_wp2
    go_ret
    exact ⟨by rw [H.out]; rfl, 0, rfl⟩

/-- are they written alike? -/
def sameB (s1 : Bool) (n : Nat) (N : Nat) (e1 : Int) (s2 : Bool) (m : Nat) (M : Nat) (e2 : Int) : Bool := s1 == s2 && (e1 == e2 && sameW n m N M)

set_option maxHeartbeats 1000000 in
theorem same_any (s1 s2 : Bool) (A1 A2 : Option Addr) (N n c1 M m c2 : Nat) (e1 e2 : Int) (w : World) (hv : Rd 64 w (.slice A1 n c1) N n) (hu : Rd 64 w (.slice A2 m c2) M m) :
    Calls Tryd.prog 16 #[.agg #[.bool s1, .slice A1 n c1, .int .i64 e1], .agg #[.bool s2, .slice A2 m c2, .int .i64 e2]] w fun e' w' =>
      e' = .returned (.bool (sameB s1 n N e1 s2 m M e2)) ∧ Below w.heap.size w w' := by
  have hB := below2 w (Obj.cells #[Value.bool s1, Value.slice A1 n c1, Value.int IntKind.i64 e1] 26) (Obj.cells #[Value.bool s2, Value.slice A2 m c2, Value.int IntKind.i64 e2] 26)
  by_cases hs : s1 = s2
  · by_cases he : e1 = e2
    · have H : Hid (sameB s1 n N e1 s2 m M e2 = sameW n m N M) := by show _ = _; unfold sameB; simp [hs, he]
      have hs' : (s1 == s2) = true := by simpa using hs
      have he' : (e1 == e2) = true := by simpa using he
      have hvW := hv.below hB
      have huW := hu.below hB
      clear hs he hv hu hB
      go_enter Tryd.func16, Tryd.ntmps16
      go_wp2_with fail
      refine (words_any (.slice A1 n c1) (.slice A2 m c2) N n M m _ hvW huW).mono ?_
      rintro e w1 ⟨rfl, d, rfl⟩
      generalize sameW n m N M = q at *
      go_wp2
      go_ret
      exact ⟨by rw [H.out]; rfl, below_drewN (below2 ..) _⟩
    · have H : Hid (sameB s1 n N e1 s2 m M e2 = false) := by show _ = _; unfold sameB; simp [he]
      have hs' : (s1 == s2) = true := by simpa using hs
      have he' : (e1 == e2) = false := by simpa using he
      clear hs he hv hu
      go_enter Tryd.func16, Tryd.ntmps16
      go_wp2
      go_ret
      exact ⟨by rw [H.out]; rfl, hB⟩
  · have H : Hid (sameB s1 n N e1 s2 m M e2 = false) := by show _ = _; unfold sameB; simp [hs]
    have hs' : (s1 == s2) = false := by simpa using hs
    clear hs hv hu
    go_enter Tryd.func16, Tryd.ntmps16
    go_wp2
    go_ret
    exact ⟨by rw [H.out]; rfl, hB⟩

end Go.Proofs.YtomhmbnpkphcmaaDoor
