/-
  KERNEL NIL, all cases together: whatever the arguments, the evaluator comes to true.
-/
import Derived.Test.YtilmoifpikljhaaGreatDoorKN0
import Derived.Test.YtilmoifpikljhaaGreatDoorKN1
import Derived.Test.YtilmoifpikljhaaGreatDoorKN2
import Derived.Test.YtilmoifpikljhaaGreatDoorKN3
import Derived.Test.YtilmoifpikljhaaGreatDoorKN4
import Derived.Test.YtilmoifpikljhaaGreatDoorKN5
import Derived.Test.YtilmoifpikljhaaGreatDoorKN6
import Derived.Test.YtilmoifpikljhaaGreatDoorKN7
set_option linter.unusedVariables false
set_option linter.unusedSimpArgs false
namespace Go.Ai
set_option maxRecDepth 100000
theorem allR (k a b c x y : Int) (l o n m o' n' m' t : Nat) : ∀ cp, 1 ≤ cp → cp ≤ 64 → P16 cp k a b c x y (raw l o n m) (raw l o' n' m') t
  | 1, _, _ => of1 k a b c x y l o n m o' n' m' t
  | 2, _, _ => of2 k a b c x y l o n m o' n' m' t
  | 3, _, _ => of3 k a b c x y l o n m o' n' m' t
  | 4, _, _ => of4 k a b c x y l o n m o' n' m' t
  | 5, _, _ => of5 k a b c x y l o n m o' n' m' t
  | 6, _, _ => of6 k a b c x y l o n m o' n' m' t
  | 7, _, _ => of7 k a b c x y l o n m o' n' m' t
  | 8, _, _ => of8 k a b c x y l o n m o' n' m' t
  | 9, _, _ => of9 k a b c x y l o n m o' n' m' t
  | 10, _, _ => of10 k a b c x y l o n m o' n' m' t
  | 11, _, _ => of11 k a b c x y l o n m o' n' m' t
  | 12, _, _ => of12 k a b c x y l o n m o' n' m' t
  | 13, _, _ => of13 k a b c x y l o n m o' n' m' t
  | 14, _, _ => of14 k a b c x y l o n m o' n' m' t
  | 15, _, _ => of15 k a b c x y l o n m o' n' m' t
  | 16, _, _ => of16 k a b c x y l o n m o' n' m' t
  | 17, _, _ => of17 k a b c x y l o n m o' n' m' t
  | 18, _, _ => of18 k a b c x y l o n m o' n' m' t
  | 19, _, _ => of19 k a b c x y l o n m o' n' m' t
  | 20, _, _ => of20 k a b c x y l o n m o' n' m' t
  | 21, _, _ => of21 k a b c x y l o n m o' n' m' t
  | 22, _, _ => of22 k a b c x y l o n m o' n' m' t
  | 23, _, _ => of23 k a b c x y l o n m o' n' m' t
  | 24, _, _ => of24 k a b c x y l o n m o' n' m' t
  | 25, _, _ => of25 k a b c x y l o n m o' n' m' t
  | 26, _, _ => of26 k a b c x y l o n m o' n' m' t
  | 27, _, _ => of27 k a b c x y l o n m o' n' m' t
  | 28, _, _ => of28 k a b c x y l o n m o' n' m' t
  | 29, _, _ => of29 k a b c x y l o n m o' n' m' t
  | 30, _, _ => of30 k a b c x y l o n m o' n' m' t
  | 31, _, _ => of31 k a b c x y l o n m o' n' m' t
  | 32, _, _ => of32 k a b c x y l o n m o' n' m' t
  | 33, _, _ => of33 k a b c x y l o n m o' n' m' t
  | 34, _, _ => of34 k a b c x y l o n m o' n' m' t
  | 35, _, _ => of35 k a b c x y l o n m o' n' m' t
  | 36, _, _ => of36 k a b c x y l o n m o' n' m' t
  | 37, _, _ => of37 k a b c x y l o n m o' n' m' t
  | 38, _, _ => of38 k a b c x y l o n m o' n' m' t
  | 39, _, _ => of39 k a b c x y l o n m o' n' m' t
  | 40, _, _ => of40 k a b c x y l o n m o' n' m' t
  | 41, _, _ => of41 k a b c x y l o n m o' n' m' t
  | 42, _, _ => of42 k a b c x y l o n m o' n' m' t
  | 43, _, _ => of43 k a b c x y l o n m o' n' m' t
  | 44, _, _ => of44 k a b c x y l o n m o' n' m' t
  | 45, _, _ => of45 k a b c x y l o n m o' n' m' t
  | 46, _, _ => of46 k a b c x y l o n m o' n' m' t
  | 47, _, _ => of47 k a b c x y l o n m o' n' m' t
  | 48, _, _ => of48 k a b c x y l o n m o' n' m' t
  | 49, _, _ => of49 k a b c x y l o n m o' n' m' t
  | 50, _, _ => of50 k a b c x y l o n m o' n' m' t
  | 51, _, _ => of51 k a b c x y l o n m o' n' m' t
  | 52, _, _ => of52 k a b c x y l o n m o' n' m' t
  | 53, _, _ => of53 k a b c x y l o n m o' n' m' t
  | 54, _, _ => of54 k a b c x y l o n m o' n' m' t
  | 55, _, _ => of55 k a b c x y l o n m o' n' m' t
  | 56, _, _ => of56 k a b c x y l o n m o' n' m' t
  | 57, _, _ => of57 k a b c x y l o n m o' n' m' t
  | 58, _, _ => of58 k a b c x y l o n m o' n' m' t
  | 59, _, _ => of59 k a b c x y l o n m o' n' m' t
  | 60, _, _ => of60 k a b c x y l o n m o' n' m' t
  | 61, _, _ => of61 k a b c x y l o n m o' n' m' t
  | 62, _, _ => of62 k a b c x y l o n m o' n' m' t
  | 63, _, _ => of63 k a b c x y l o n m o' n' m' t
  | 64, _, _ => of64 k a b c x y l o n m o' n' m' t
  | 0, h, _ => absurd h (by omega)
  | n + 65, _, h => absurd h (by omega)
theorem allN (k a b c x y : Int) (t : Nat) : ∀ cp, 1 ≤ cp → cp ≤ 64 → P16 cp k a b c x y .nils .nils t
  | 1, _, _ => of1n k a b c x y t
  | 2, _, _ => of2n k a b c x y t
  | 3, _, _ => of3n k a b c x y t
  | 4, _, _ => of4n k a b c x y t
  | 5, _, _ => of5n k a b c x y t
  | 6, _, _ => of6n k a b c x y t
  | 7, _, _ => of7n k a b c x y t
  | 8, _, _ => of8n k a b c x y t
  | 9, _, _ => of9n k a b c x y t
  | 10, _, _ => of10n k a b c x y t
  | 11, _, _ => of11n k a b c x y t
  | 12, _, _ => of12n k a b c x y t
  | 13, _, _ => of13n k a b c x y t
  | 14, _, _ => of14n k a b c x y t
  | 15, _, _ => of15n k a b c x y t
  | 16, _, _ => of16n k a b c x y t
  | 17, _, _ => of17n k a b c x y t
  | 18, _, _ => of18n k a b c x y t
  | 19, _, _ => of19n k a b c x y t
  | 20, _, _ => of20n k a b c x y t
  | 21, _, _ => of21n k a b c x y t
  | 22, _, _ => of22n k a b c x y t
  | 23, _, _ => of23n k a b c x y t
  | 24, _, _ => of24n k a b c x y t
  | 25, _, _ => of25n k a b c x y t
  | 26, _, _ => of26n k a b c x y t
  | 27, _, _ => of27n k a b c x y t
  | 28, _, _ => of28n k a b c x y t
  | 29, _, _ => of29n k a b c x y t
  | 30, _, _ => of30n k a b c x y t
  | 31, _, _ => of31n k a b c x y t
  | 32, _, _ => of32n k a b c x y t
  | 33, _, _ => of33n k a b c x y t
  | 34, _, _ => of34n k a b c x y t
  | 35, _, _ => of35n k a b c x y t
  | 36, _, _ => of36n k a b c x y t
  | 37, _, _ => of37n k a b c x y t
  | 38, _, _ => of38n k a b c x y t
  | 39, _, _ => of39n k a b c x y t
  | 40, _, _ => of40n k a b c x y t
  | 41, _, _ => of41n k a b c x y t
  | 42, _, _ => of42n k a b c x y t
  | 43, _, _ => of43n k a b c x y t
  | 44, _, _ => of44n k a b c x y t
  | 45, _, _ => of45n k a b c x y t
  | 46, _, _ => of46n k a b c x y t
  | 47, _, _ => of47n k a b c x y t
  | 48, _, _ => of48n k a b c x y t
  | 49, _, _ => of49n k a b c x y t
  | 50, _, _ => of50n k a b c x y t
  | 51, _, _ => of51n k a b c x y t
  | 52, _, _ => of52n k a b c x y t
  | 53, _, _ => of53n k a b c x y t
  | 54, _, _ => of54n k a b c x y t
  | 55, _, _ => of55n k a b c x y t
  | 56, _, _ => of56n k a b c x y t
  | 57, _, _ => of57n k a b c x y t
  | 58, _, _ => of58n k a b c x y t
  | 59, _, _ => of59n k a b c x y t
  | 60, _, _ => of60n k a b c x y t
  | 61, _, _ => of61n k a b c x y t
  | 62, _, _ => of62n k a b c x y t
  | 63, _, _ => of63n k a b c x y t
  | 64, _, _ => of64n k a b c x y t
  | 0, h, _ => absurd h (by omega)
  | n + 65, _, h => absurd h (by omega)
theorem P16.page {cp : Nat} {k a b c x y : Int} {r r' : AV} {t : Nat} (h : P16 cp k a b c x y r r' t) : ∀ p, 1 ≤ p → p ≤ 16 → val (tail8 (i64 cp) (i64 p) k a b c x y r r' t) = .bool true := by
  obtain ⟨h1, h2, h3, h4, h5, h6, h7, h8, h9, h10, h11, h12, h13, h14, h15, h16, _, _⟩ := h
  intro p a b
  match p, a, b with
  | 1, _, _ => exact h1.tail
  | 2, _, _ => exact h2.tail
  | 3, _, _ => exact h3.tail
  | 4, _, _ => exact h4.tail
  | 5, _, _ => exact h5.tail
  | 6, _, _ => exact h6.tail
  | 7, _, _ => exact h7.tail
  | 8, _, _ => exact h8.tail
  | 9, _, _ => exact h9.tail
  | 10, _, _ => exact h10.tail
  | 11, _, _ => exact h11.tail
  | 12, _, _ => exact h12.tail
  | 13, _, _ => exact h13.tail
  | 14, _, _ => exact h14.tail
  | 15, _, _ => exact h15.tail
  | 16, _, _ => exact h16.tail
  | 0, a, _ => omega
  | n + 17, _, b => omega
theorem P16.lo {cp : Nat} {k a b c x y : Int} {r r' : AV} {t : Nat} (h : P16 cp k a b c x y r r' t) : val (tail8 (i64 cp) pgLo k a b c x y r r' t) = .bool true := by
  obtain ⟨_, _, _, _, _, _, _, _, _, _, _, _, _, _, _, _, h, _⟩ := h
  exact h
theorem P16.hi {cp : Nat} {k a b c x y : Int} {r r' : AV} {t : Nat} (h : P16 cp k a b c x y r r' t) : val (tail8 (i64 cp) pgHi k a b c x y r r' t) = .bool true := by
  obtain ⟨_, _, _, _, _, _, _, _, _, _, _, _, _, _, _, _, _, h⟩ := h
  exact h
theorem law_start (a0 a1 a2 a3 : AV) (h : Heap) : resR dtab ytab xK 1000000 100 (.fn 3) [a0, a1, a2, a3] h = c3 1000000 RR a0 a1 a2 a3 h := by kernel_rfl
/-- Raw is cut -/
theorem cutS {R : Type} {l o n m : Nat} (hc : n ≤ m) : ∃ n', ∀ k : AV → Option R, (lenS (raw l o n m) fun v8 => mm false v8 (.int .i64 (.ofNat 600)) fun v9 => slS 1 (raw l o n m) none (some v9) none k) = k (raw l (o + 0 * 1) n' (m - 0)) := by
  have e1 : ∀ (q : Nat) (k : AV → Option R), q ≤ m → slS 1 (raw l o n m) none (some (.int .i64 (.ofNat q))) none k = k (raw l (o + 0 * 1) (q - 0) (m - 0)) := by
    intro q k hq
    show (bif Nat.ble 0 q then bif Nat.ble q m then k (raw l (o + 0 * 1) (q - 0) (m - 0)) else none else none) = _
    rw [Nat.ble_eq_true_of_le (Nat.zero_le q), Nat.ble_eq_true_of_le hq]
    rfl
  have e2 : ∀ k : AV → Option R, (lenS (raw l o n m) fun v8 => mm false v8 (.int .i64 (.ofNat 600)) fun v9 => slS 1 (raw l o n m) none (some v9) none k)
      = slS 1 (raw l o n m) none (some (.int .i64 (bif Nat.blt 600 n then .ofNat 600 else .ofNat n))) none k := fun _ => rfl
  cases hb : Nat.blt 600 n with
  | true => exact ⟨_, fun k => by rw [e2, hb]; exact e1 600 k (by have := blt_lt hb; omega)⟩
  | false => exact ⟨_, fun k => by rw [e2, hb]; exact e1 n k hc⟩
theorem seg0 {a0 a1 a2 : AV} {k a b c x y : Int} {l o n m : Nat} (hc : n ≤ m) : ∃ o' n' m', ∀ K, s3_0 1000000 RR a0 a1 a2 (.agg (cells k a b c x y (raw l o n m))) h1 K = K a0 a1 a2 (.ptr 8 0) (raw l o' n' m') (.ptr 8 6) (h2 k a b c x y (raw l o n m)) := by
  have e : ∀ K, s3_0 1000000 RR a0 a1 a2 (.agg (cells k a b c x y (raw l o n m))) h1 K = lenS (raw l o n m) fun v8 => mm false v8 (.int .i64 (.ofNat 600)) fun v9 => slS 1 (raw l o n m) none (some v9) none fun v10 => K a0 a1 a2 (.ptr 8 0) v10 (.ptr 8 6) (h2 k a b c x y (raw l o n m)) := fun K => by kernel_rfl
  obtain ⟨n', hn⟩ := cutS (R := AV × Heap) (l := l) (o := o) hc
  exact ⟨_, _, _, fun K => (e K).trans (hn _)⟩
theorem seg0n {a0 a1 a2 : AV} {k a b c x y : Int} : ∀ K, s3_0 1000000 RR a0 a1 a2 (.agg (cells k a b c x y .nils)) h1 K = K a0 a1 a2 (.ptr 8 0) .nils (.ptr 8 6) (h2 k a b c x y .nils) := fun K => by kernel_rfl
theorem joinR {cp pg : AV} {k a b c x y : Int} {l o n m t : Nat} (hc : n ≤ m) (h : ∀ o' n' m', val (tail8 cp pg k a b c x y (raw l o n m) (raw l o' n' m') t) = .bool true) :
    val (resR dtab ytab xK 1000000 100 (.fn 3) [cp, pg, .int .u64 (.ofNat t), .agg (cells k a b c x y (raw l o n m))] h1) = .bool true := by
  obtain ⟨o', n', m', e⟩ := seg0 (a0 := cp) (a1 := pg) (a2 := .int .u64 (.ofNat t)) (k := k) (a := a) (b := b) (c := c) (x := x) (y := y) (l := l) (o := o) hc
  rw [law_start, cut3]
  exact (congrArg val (e _)).trans (h o' n' m')
theorem joinN {cp pg : AV} {k a b c x y : Int} {t : Nat} (h : val (tail8 cp pg k a b c x y .nils .nils t) = .bool true) :
    val (resR dtab ytab xK 1000000 100 (.fn 3) [cp, pg, .int .u64 (.ofNat t), .agg (cells k a b c x y .nils)] h1) = .bool true := by
  rw [law_start, cut3]
  exact (congrArg val (seg0n (a0 := cp) (a1 := pg) (a2 := .int .u64 (.ofNat t)) _)).trans h
/-- a number of CPUs, of pages, as the evaluator's -/
theorem cpu_av {z : Int} (h1 : -9223372036854775808 ≤ z) (h2 : z ≤ 9223372036854775807) : (∀ β, VRel β cpLo (.int .i64 z)) ∨ (∀ β, VRel β cpHi (.int .i64 z)) ∨ ∃ c : Nat, 1 ≤ c ∧ c ≤ 64 ∧ ∀ β, VRel β (i64 c) (.int .i64 z) := by
  by_cases ha : z ≤ 0
  · exact .inl fun β => by simp only [cpLo, VRel]; exact ⟨z, rfl, h1, ha⟩
  by_cases hb : 65 ≤ z
  · exact .inr (.inl fun β => by simp only [cpHi, VRel]; exact ⟨z, rfl, hb, h2⟩)
  obtain ⟨c, rfl⟩ := Int.eq_ofNat_of_zero_le (show 0 ≤ z by omega)
  exact .inr (.inr ⟨c, by omega, by omega, fun β => by simp only [i64, VRel]; rfl⟩)
theorem page_av {z : Int} (h1 : -9223372036854775808 ≤ z) (h2 : z ≤ 9223372036854775807) : (∀ β, VRel β pgLo (.int .i64 z)) ∨ (∀ β, VRel β pgHi (.int .i64 z)) ∨ ∃ c : Nat, 1 ≤ c ∧ c ≤ 16 ∧ ∀ β, VRel β (i64 c) (.int .i64 z) := by
  by_cases ha : z ≤ 0
  · exact .inl fun β => by simp only [pgLo, VRel]; exact ⟨z, rfl, h1, ha⟩
  by_cases hb : 17 ≤ z
  · exact .inr (.inl fun β => by simp only [pgHi, VRel]; exact ⟨z, rfl, hb, h2⟩)
  obtain ⟨c, rfl⟩ := Int.eq_ofNat_of_zero_le (show 0 ≤ z by omega)
  exact .inr (.inr ⟨c, by omega, by omega, fun β => by simp only [i64, VRel]; rfl⟩)
/-- WHATEVER THE ARGUMENTS, THE EVALUATOR COMES TO TRUE. -/
theorem nil_true {zc zp : Int} {t : Nat} {k a b c x y : Int} {r : AV} (hc1 : -9223372036854775808 ≤ zc) (hc2 : zc ≤ 9223372036854775807) (hp1 : -9223372036854775808 ≤ zp) (hp2 : zp ≤ 9223372036854775807)
    (hr : r = .nils ∨ ∃ l o n m, n ≤ m ∧ r = raw l o n m) :
    ∃ cp pg h', (∀ β, VRel β cp (.int .i64 zc)) ∧ (∀ β, VRel β pg (.int .i64 zp)) ∧ resR dtab ytab xK 1000000 100 (.fn 3) [cp, pg, .int .u64 (.ofNat t), .agg (cells k a b c x y r)] h1 = some (.bool true, h') := by
  have hany : ∀ β, VRel β anyI (.int .i64 zp) := fun β => by simp only [anyI, VRel]; exact ⟨zp, rfl, hp1, hp2⟩
  have fin : ∀ {cp pg : AV}, (∀ β, VRel β cp (.int .i64 zc)) → (∀ β, VRel β pg (.int .i64 zp)) → val (resR dtab ytab xK 1000000 100 (.fn 3) [cp, pg, .int .u64 (.ofNat t), .agg (cells k a b c x y r)] h1) = .bool true →
      ∃ cp pg h', (∀ β, VRel β cp (.int .i64 zc)) ∧ (∀ β, VRel β pg (.int .i64 zp)) ∧ resR dtab ytab xK 1000000 100 (.fn 3) [cp, pg, .int .u64 (.ofNat t), .agg (cells k a b c x y r)] h1 = some (.bool true, h') := by
    intro cp pg h1 h2 h3
    obtain ⟨h', e⟩ := of_val (by intro h; cases h) h3
    exact ⟨cp, pg, h', h1, h2, e⟩
  rcases hr with rfl | ⟨l, o, n, m, hnm, rfl⟩
  · rcases cpu_av hc1 hc2 with h | h | ⟨cp, a1, a2, h⟩
    · exact fin h hany (joinN (lo0 k a b c x y t))
    · exact fin h hany (joinN (hi0 k a b c x y t))
    · have hP := allN k a b c x y t cp a1 a2
      rcases page_av hp1 hp2 with h' | h' | ⟨p, b1, b2, h'⟩
      · exact fin h h' (joinN hP.lo)
      · exact fin h h' (joinN hP.hi)
      · exact fin h h' (joinN (hP.page p b1 b2))
  · rcases cpu_av hc1 hc2 with h | h | ⟨cp, a1, a2, h⟩
    · exact fin h hany (joinR hnm fun o' n' m' => lo k a b c x y l o n m o' n' m' t)
    · exact fin h hany (joinR hnm fun o' n' m' => hi k a b c x y l o n m o' n' m' t)
    · have hP := fun o' n' m' => allR k a b c x y l o n m o' n' m' t cp a1 a2
      rcases page_av hp1 hp2 with h' | h' | ⟨p, b1, b2, h'⟩
      · exact fin h h' (joinR hnm fun o' n' m' => (hP o' n' m').lo)
      · exact fin h h' (joinR hnm fun o' n' m' => (hP o' n' m').hi)
      · exact fin h h' (joinR hnm fun o' n' m' => (hP o' n' m').page p b1 b2)
end Go.Ai
