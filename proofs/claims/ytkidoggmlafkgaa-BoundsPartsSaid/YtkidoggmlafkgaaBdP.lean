/- BoundsParts: the walk of the law. -/
import Derived.Test.YtkidoggmlafkgaaBdR
namespace Go.Proofs.Ytkidoggmlafkgaa.Bd
open Go.RowKit Go.Proofs.Ytkidoggmlafkgaa.Sep Go.Proofs.Ytkidoggmlafkgaa.Span Go.Proofs.YtkidoggmlafkgaaW.PrintWords

/-- Room enough is room enough: more changes nothing. -/
theorem inB_room (s : Nat) : ∀ (c : Con) (r q : Nat), sizeC c ≤ s → s ≤ r → s ≤ q → ∀ n, inB r c n = inB q c n := by
  induction s with
  | zero => intro c r q h; have := sizeC_pos c; omega
  | succ s ih =>
    intro c r q hs hr hq n
    obtain ⟨r, rfl⟩ : ∃ j, r = j + 1 := ⟨r - 1, by omega⟩
    obtain ⟨q, rfl⟩ : ∃ j, q = j + 1 := ⟨q - 1, by omega⟩
    have hch : ∀ y ∈ c.f5, inB r y n = inB q y n := fun y hy => by
      have h1 := sizeL_mem hy
      have h2 := sizeC_eq c
      exact ih y r q (by omega) (by omega) (by omega) n
    rw [inB_succ, inB_succ]
    split
    · rfl
    · split
      · rfl
      · split
        · rw [Bool.eq_iff_iff, List.any_eq_true, List.any_eq_true]
          constructor
          · rintro ⟨y, hy, h⟩; exact ⟨y, hy, by rw [← hch y hy]; exact h⟩
          · rintro ⟨y, hy, h⟩; exact ⟨y, hy, by rw [hch y hy]; exact h⟩
        · split
          · rw [Bool.eq_iff_iff, List.all_eq_true, List.all_eq_true]
            constructor
            · intro h y hy; rw [← hch y hy]; exact h y hy
            · intro h y hy; rw [hch y hy]; exact h y hy
          · split
            · rw [List.map_congr_left hch]
            · rfl
def two (op : Int) (a b : Con) : Con := ⟨op, 0, 0, false, false, [a, b]⟩
theorem two_size (op : Int) (a b : Con) : sizeC (two op a b) = sizeC a + sizeC b + 1 := by
  rw [sizeC_eq]
  simp [two, sizeL]
theorem two_ok (op : Int) (a b : Con) (ha : ∀ d, okD d a) (hb : ∀ d, okD d b) : okD 40 (two op a b) := by
  refine ⟨okB_all (s := [(0, 0)]) (by decide) _ (by simp [two]), fun x hx => ?_⟩
  rcases List.mem_cons.1 hx with rfl | hx
  · exact ha _
  · obtain rfl := List.mem_singleton.1 hx
    exact hb _
theorem two_union (a b : Con) (ha : sizeC a ≤ 30) (hb : sizeC b ≤ 30) (n : Int) : inB 40 (two 2 a b) n = (inB 40 a n || inB 40 b n) := by
  rw [inB_room 30 a 40 39 ha (by omega) (by omega), inB_room 30 b 40 39 hb (by omega) (by omega), inB_succ]
  simp [two]
theorem two_meet (a b : Con) (ha : sizeC a ≤ 30) (hb : sizeC b ≤ 30) (n : Int) : inB 40 (two 3 a b) n = (inB 40 a n && inB 40 b n) := by
  rw [inB_room 30 a 40 39 ha (by omega) (by omega), inB_room 30 b 40 39 hb (by omega) (by omega), inB_succ]
  simp [two]
theorem two_except (a b : Con) (ha : sizeC a ≤ 30) (hb : sizeC b ≤ 30) (n : Int) : inB 40 (two 4 a b) n = (inB 40 a n && !inB 40 b n) := by
  rw [inB_room 30 a 40 39 ha (by omega) (by omega), inB_room 30 b 40 39 hb (by omega) (by omega), inB_succ]
  simp [two, exceptB]

set_option maxHeartbeats 8000000 in
set_option maxRecDepth 100000 in
theorem parts_calls (a : Con) (A : Option Addr) (cap : Nat) (b : Con) (A' : Option Addr) (cap' : Nat) (vp : Value) (p : List Rg) (w : World) (hla : RC w A a.f5) (hlb : RC w A' b.f5) (hca : a.f5.length ≤ cap) (hcb : b.f5.length ≤ cap') (hoa : ∀ d, okD d a) (hob : ∀ d, okD d b) (hp : R2 w vp p) (hop : ∀ r ∈ p, okR r) :
    Calls Try.prog 10 #[.agg #[.int .i64 a.f0, .int .i64 a.f1, .int .i64 a.f2, .bool a.f3, .bool a.f4, .slice A a.f5.length cap], .agg #[.int .i64 b.f0, .int .i64 b.f1, .int .i64 b.f2, .bool b.f3, .bool b.f4, .slice A' b.f5.length cap'], vp] w fun e w' => e = .returned (.bool true) ∧ Below w.heap.size w w' := by
  have H := Lib.hid (alloc_at (n := w.heap.size + 1) ((St.start w).alloc (.cells #[.int .i64 a.f0, .int .i64 a.f1, .int .i64 a.f2, .bool a.f3, .bool a.f4, .slice A a.f5.length cap] 36)) (.cells #[.int .i64 b.f0, .int .i64 b.f1, .int .i64 b.f2, .bool b.f3, .bool b.f4, .slice A' b.f5.length cap'] 36) (by simp))
  have HA := Lib.hid (And.intro hla (And.intro hlb (And.intro hop (fun (W : World) (Q : Sep.HP) (h : St w.heap.size w W Q) => hp.below h.below))))
  have HO := Lib.hid (And.intro hoa hob)
  obtain ⟨Ap, cp, rfl, hcp, hcmp, -⟩ := hp
  have hpl : p.length ≤ 9223372036854775807 := by simp only [maxLen] at hcmp; omega
  clear hla hlb hoa hob hop hcp hcmp
  by_cases hsa : sizeC a ≤ 30
  · have esa : decide (sizeC a ≤ 30) = true := decide_eq_true hsa
    by_cases hsb : sizeC b ≤ 30
    · have esb : decide (sizeC b ≤ 30) = true := decide_eq_true hsb
      by_cases hpl2 : p.length ≤ 10
      · go_enter Try.func10, Try.ntmps10
        go_wp2_with fail
        refine (awake12_calls H.out).mono ?_
        rintro e w1 ⟨rfl, h1⟩
        have H1 := Lib.hid h1
        clear h1 H
        have b0 := H1.out.cell 0 rfl
        have b1 := H1.out.cell 1 rfl
        have b2 := H1.out.cell 2 rfl
        have b3 := H1.out.cell 3 rfl
        have b4 := H1.out.cell 4 rfl
        have b5 := H1.out.cell 5 rfl
        have a0 := H1.out.two.cell 0 rfl
        have a1 := H1.out.two.cell 1 rfl
        have a2 := H1.out.two.cell 2 rfl
        have a3 := H1.out.two.cell 3 rfl
        have a4 := H1.out.two.cell 4 rfl
        have a5 := H1.out.two.cell 5 rfl
        go_wp2_with fail
        refine (few_calls a 30 (by omega) A cap H1.out HA.out.1 hca).mono ?_
        rintro e w2 ⟨rfl, h2⟩
        have H2 := Lib.hid h2
        clear h2 H1 a0 b0 a1 b1 a2 b2 a3 b3 a4 b4 a5 b5
        have b0 := H2.out.cell 0 rfl
        have b1 := H2.out.cell 1 rfl
        have b2 := H2.out.cell 2 rfl
        have b3 := H2.out.cell 3 rfl
        have b4 := H2.out.cell 4 rfl
        have b5 := H2.out.cell 5 rfl
        have a0 := H2.out.two.cell 0 rfl
        have a1 := H2.out.two.cell 1 rfl
        have a2 := H2.out.two.cell 2 rfl
        have a3 := H2.out.two.cell 3 rfl
        have a4 := H2.out.two.cell 4 rfl
        have a5 := H2.out.two.cell 5 rfl
        go_wp2_with fail
        refine (few_calls b 30 (by omega) A' cap' H2.out HA.out.2.1 hcb).mono ?_
        rintro e w3 ⟨rfl, h3⟩
        have H3 := Lib.hid h3
        clear h3 H2 a0 b0 a1 b1 a2 b2 a3 b3 a4 b4 a5 b5
        have b0 := H3.out.cell 0 rfl
        have b1 := H3.out.cell 1 rfl
        have b2 := H3.out.cell 2 rfl
        have b3 := H3.out.cell 3 rfl
        have b4 := H3.out.cell 4 rfl
        have b5 := H3.out.cell 5 rfl
        have a0 := H3.out.two.cell 0 rfl
        have a1 := H3.out.two.cell 1 rfl
        have a2 := H3.out.two.cell 2 rfl
        have a3 := H3.out.two.cell 3 rfl
        have a4 := H3.out.two.cell 4 rfl
        have a5 := H3.out.two.cell 5 rfl
        go_wp2_with fail
        refine (set_calls a A cap _ p H3.out HA.out.1 hca (HO.out.1 40) (by omega) (fun W hW => HA.out.2.2.2 W _ hW) (by omega) HA.out.2.2.1).mono ?_
        rintro e w4 ⟨v4, x, rfl, m1, m2, m3, m4, h4⟩
        have H4 := Lib.hid h4
        have HX := Lib.hid (And.intro m1 (And.intro m2 m4))
        clear m1 m2 m4 h4 H3 a0 b0 a1 b1 a2 b2 a3 b3 a4 b4 a5 b5
        have b0 := H4.out.drop.cell 0 rfl
        have b1 := H4.out.drop.cell 1 rfl
        have b2 := H4.out.drop.cell 2 rfl
        have b3 := H4.out.drop.cell 3 rfl
        have b4 := H4.out.drop.cell 4 rfl
        have b5 := H4.out.drop.cell 5 rfl
        have a0 := H4.out.drop.two.cell 0 rfl
        have a1 := H4.out.drop.two.cell 1 rfl
        have a2 := H4.out.drop.two.cell 2 rfl
        have a3 := H4.out.drop.two.cell 3 rfl
        have a4 := H4.out.drop.two.cell 4 rfl
        have a5 := H4.out.drop.two.cell 5 rfl
        go_wp2_with fail
        refine (set_calls b A' cap' _ p H4.out HA.out.2.1 hcb (HO.out.2 40) (by omega) (fun W hW => HA.out.2.2.2 W _ hW) (by omega) HA.out.2.2.1).mono ?_
        rintro e w5 ⟨v5, y, rfl, m1, m2, m5, m4, h4⟩
        have H5 := Lib.hid h4
        have HY := Lib.hid (And.intro m1 (And.intro m2 m4))
        clear m1 m2 m4 h4 H4 a0 b0 a1 b1 a2 b2 a3 b3 a4 b4 a5 b5
        have b0 := H5.out.drop.drop.cell 0 rfl
        have b1 := H5.out.drop.drop.cell 1 rfl
        have b2 := H5.out.drop.drop.cell 2 rfl
        have b3 := H5.out.drop.drop.cell 3 rfl
        have b4 := H5.out.drop.drop.cell 4 rfl
        have b5 := H5.out.drop.drop.cell 5 rfl
        have a0 := H5.out.drop.drop.two.cell 0 rfl
        have a1 := H5.out.drop.drop.two.cell 1 rfl
        have a2 := H5.out.drop.drop.two.cell 2 rfl
        have a3 := H5.out.drop.drop.two.cell 3 rfl
        have a4 := H5.out.drop.drop.two.cell 4 rfl
        have a5 := H5.out.drop.drop.two.cell 5 rfl
        have H6 := Lib.hid (H5.out.alloc (.cells #[.int .i64 a.f0, .int .i64 a.f1, .int .i64 a.f2, .bool a.f3, .bool a.f4, .slice A a.f5.length cap, .int .i64 b.f0, .int .i64 b.f1, .int .i64 b.f2, .bool b.f3, .bool b.f4, .slice A' b.f5.length cap'] 36))
        have HRC : Hid (∀ (W : World) {Q : Sep.HP}, St w.heap.size w W (Blk w5.heap.size (.cells #[.int .i64 a.f0, .int .i64 a.f1, .int .i64 a.f2, .bool a.f3, .bool a.f4, .slice A a.f5.length cap, .int .i64 b.f0, .int .i64 b.f1, .int .i64 b.f2, .bool b.f3, .bool b.f4, .slice A' b.f5.length cap'] 36 (0, 0)) • Q) → RC W (some ⟨w5.heap.size, 0, none⟩) [a, b]) := Lib.hid (fun W Q hW =>
          rc_two (x := a) (y := b) (A0 := A) (A1 := A') (c0 := cap) (c1 := cap') (fun k u hu => hW.cell k (by simpa [cellC] using hu)) hca hcb (HA.out.1.below hW.below) (HA.out.2.1.below hW.below))
        have hm1 : x.length * y.length ≤ 40 * 40 := Nat.mul_le_mul (by omega) (by omega)
        have hm2 : x.length * (y.length + 1) ≤ 40 * 41 := Nat.mul_le_mul (by omega) (by omega)
        have hm3 : x.length * p.length ≤ 40 * 10 := Nat.mul_le_mul (by omega) (by omega)
        go_wp2_with fail
        refine (set_at _ (two 2 a b) (some ⟨w5.heap.size, 0, none⟩) 2 rfl _ p (St.start _) (HRC.out _ H6.out) (Nat.le_refl 2) (two_ok _ _ _ HO.out.1 HO.out.2) (by rw [two_size]; omega) (fun W hW => (HA.out.2.2.2 _ _ H6.out).below hW.below) (by omega) HA.out.2.2.1).mono ?_
        rintro e w40 ⟨v40, u40, rfl, m1, m2, -, -, h9⟩
        clear a0 b0 a1 b1 a2 b2 a3 b3 a4 b4 a5 b5
        have H40 := Lib.hid (St.nest H6.out h9).assoc.drop2
        clear h9
        go_wp2_with fail
        refine (union_calls v4 v5 x y H40.out (fun W hW => St.r2 hW.drop.three) (fun W hW => St.r2 hW.three) (by omega) (by omega) HX.out.2.2 HY.out.2.2).mono ?_
        rintro e w41 ⟨v41, u41, rfl, n1, n2, -, -, h9⟩
        have H41 := Lib.hid h9
        clear h9
        go_wp2_with fail
        refine (same12_calls v40 v41 u40 u41 H41.out (fun W hW => St.r2 hW.two) (fun W hW => St.r2 hW)).mono ?_
        rintro e w42 ⟨rfl, h9⟩
        rw [show decide (u40 = u41) = true from decide_eq_true (uniq m1 n1 fun n => by
          rw [m2, n2, HX.out.2.1, HY.out.2.1, two_union a b hsa hsb]
          cases inB 40 a n <;> cases inB 40 b n <;> cases hasB p n <;> rfl)]
        have H42 := Lib.hid h9.drop.drop
        clear h9 m1 m2 n1 n2 H40 H41
        go_wp2_with fail
        refine (set_at _ (two 3 a b) (some ⟨w5.heap.size, 0, none⟩) 2 rfl _ p (St.start _) (HRC.out _ H42.out) (Nat.le_refl 2) (two_ok _ _ _ HO.out.1 HO.out.2) (by rw [two_size]; omega) (fun W hW => (HA.out.2.2.2 _ _ H42.out).below hW.below) (by omega) HA.out.2.2.1).mono ?_
        rintro e w50 ⟨v50, u50, rfl, m1, m2, -, -, h9⟩
        have H50 := Lib.hid (St.nest H42.out h9).assoc.drop2
        clear h9
        go_wp2_with fail
        refine (meet_calls v4 v5 x y H50.out (fun W hW => St.r2 hW.drop.three) (fun W hW => St.r2 hW.three) (by omega) HX.out.2.2 HY.out.2.2).mono ?_
        rintro e w51 ⟨v51, u51, rfl, n1, n2, -, -, h9⟩
        have H51 := Lib.hid h9
        clear h9
        go_wp2_with fail
        refine (same12_calls v50 v51 u50 u51 H51.out (fun W hW => St.r2 hW.two) (fun W hW => St.r2 hW)).mono ?_
        rintro e w52 ⟨rfl, h9⟩
        rw [show decide (u50 = u51) = true from decide_eq_true (uniq m1 n1 fun n => by
          rw [m2, n2, HX.out.2.1, HY.out.2.1, two_meet a b hsa hsb]
          cases inB 40 a n <;> cases inB 40 b n <;> cases hasB p n <;> rfl)]
        have H52 := Lib.hid h9.drop.drop
        clear h9 m1 m2 n1 n2 H50 H51
        go_wp2_with fail
        refine (set_at _ (two 4 a b) (some ⟨w5.heap.size, 0, none⟩) 2 rfl _ p (St.start _) (HRC.out _ H52.out) (Nat.le_refl 2) (two_ok _ _ _ HO.out.1 HO.out.2) (by rw [two_size]; omega) (fun W hW => (HA.out.2.2.2 _ _ H52.out).below hW.below) (by omega) HA.out.2.2.1).mono ?_
        rintro e w60 ⟨v60, u60, rfl, m1, m2, -, -, h9⟩
        have H60 := Lib.hid (St.nest H52.out h9).assoc.drop2
        clear h9
        go_wp2_with fail
        refine (minus_calls v4 v5 x y H60.out (fun W hW => St.r2 hW.drop.three) (fun W hW => St.r2 hW.three) (by omega) (by omega) HX.out.2.2 HY.out.2.2).mono ?_
        rintro e w61 ⟨v61, u61, rfl, n1, n2, -, -, h9⟩
        have H61 := Lib.hid h9
        clear h9
        go_wp2_with fail
        refine (same12_calls v60 v61 u60 u61 H61.out (fun W hW => St.r2 hW.two) (fun W hW => St.r2 hW)).mono ?_
        rintro e w62 ⟨rfl, h9⟩
        rw [show decide (u60 = u61) = true from decide_eq_true (uniq m1 n1 fun n => by
          rw [m2, n2, HX.out.2.1, HY.out.2.1, two_except a b hsa hsb]
          cases inB 40 a n <;> cases inB 40 b n <;> cases hasB p n <;> rfl)]
        have H62 := Lib.hid h9.drop.drop
        clear h9 m1 m2 n1 n2 H60 H61
        go_wp2_with fail
        refine (meet_calls v4 _ x p H62.out (fun W hW => St.r2 hW.three) (fun W hW => HA.out.2.2.2 W _ hW) (by omega) HX.out.2.2 HA.out.2.2.1).mono ?_
        rintro e w90 ⟨v90, u90, rfl, m1, m2, -, -, h9⟩
        have H90 := Lib.hid h9
        clear h9
        go_wp2_with fail
        refine (same12_calls v90 v4 u90 x H90.out (fun W hW => St.r2 hW) (fun W hW => St.r2 hW.drop.three)).mono ?_
        rintro e w91 ⟨rfl, h9⟩
        rw [show decide (u90 = x) = true from decide_eq_true (uniq m1 HX.out.1 fun n => by
          rw [m2, HX.out.2.1]
          cases inB 40 a n <;> cases hasB p n <;> rfl)]
        have H91 := Lib.hid h9.below
        clear h9 m1 m2
        go_wp2
        go_ret
        exact ⟨rfl, H91.out⟩
      · have hpl4 : (10 : Int) < (p.length : Int) := by omega
        go_enter Try.func10, Try.ntmps10
        go_wp2_with fail
        refine (awake12_calls H.out).mono ?_
        rintro e w1 ⟨rfl, h1⟩
        have H1 := Lib.hid h1
        clear h1 H
        have b0 := H1.out.cell 0 rfl
        have b1 := H1.out.cell 1 rfl
        have b2 := H1.out.cell 2 rfl
        have b3 := H1.out.cell 3 rfl
        have b4 := H1.out.cell 4 rfl
        have b5 := H1.out.cell 5 rfl
        have a0 := H1.out.two.cell 0 rfl
        have a1 := H1.out.two.cell 1 rfl
        have a2 := H1.out.two.cell 2 rfl
        have a3 := H1.out.two.cell 3 rfl
        have a4 := H1.out.two.cell 4 rfl
        have a5 := H1.out.two.cell 5 rfl
        go_wp2_with fail
        refine (few_calls a 30 (by omega) A cap H1.out HA.out.1 hca).mono ?_
        rintro e w2 ⟨rfl, h2⟩
        have H2 := Lib.hid h2
        clear h2 H1 a0 b0 a1 b1 a2 b2 a3 b3 a4 b4 a5 b5
        have b0 := H2.out.cell 0 rfl
        have b1 := H2.out.cell 1 rfl
        have b2 := H2.out.cell 2 rfl
        have b3 := H2.out.cell 3 rfl
        have b4 := H2.out.cell 4 rfl
        have b5 := H2.out.cell 5 rfl
        have a0 := H2.out.two.cell 0 rfl
        have a1 := H2.out.two.cell 1 rfl
        have a2 := H2.out.two.cell 2 rfl
        have a3 := H2.out.two.cell 3 rfl
        have a4 := H2.out.two.cell 4 rfl
        have a5 := H2.out.two.cell 5 rfl
        go_wp2_with fail
        refine (few_calls b 30 (by omega) A' cap' H2.out HA.out.2.1 hcb).mono ?_
        rintro e w3 ⟨rfl, h3⟩
        have H3 := Lib.hid h3
        clear h3 H2 a0 b0 a1 b1 a2 b2 a3 b3 a4 b4 a5 b5
        have b0 := H3.out.cell 0 rfl
        have b1 := H3.out.cell 1 rfl
        have b2 := H3.out.cell 2 rfl
        have b3 := H3.out.cell 3 rfl
        have b4 := H3.out.cell 4 rfl
        have b5 := H3.out.cell 5 rfl
        have a0 := H3.out.two.cell 0 rfl
        have a1 := H3.out.two.cell 1 rfl
        have a2 := H3.out.two.cell 2 rfl
        have a3 := H3.out.two.cell 3 rfl
        have a4 := H3.out.two.cell 4 rfl
        have a5 := H3.out.two.cell 5 rfl
        clear a0 b0 a1 b1 a2 b2 a3 b3 a4 b4 a5 b5
        go_wp2
        go_ret
        exact ⟨rfl, H3.out.below⟩
    · have esb : decide (sizeC b ≤ 30) = false := decide_eq_false hsb
      go_enter Try.func10, Try.ntmps10
      go_wp2_with fail
      refine (awake12_calls H.out).mono ?_
      rintro e w1 ⟨rfl, h1⟩
      have H1 := Lib.hid h1
      clear h1 H
      have b0 := H1.out.cell 0 rfl
      have b1 := H1.out.cell 1 rfl
      have b2 := H1.out.cell 2 rfl
      have b3 := H1.out.cell 3 rfl
      have b4 := H1.out.cell 4 rfl
      have b5 := H1.out.cell 5 rfl
      have a0 := H1.out.two.cell 0 rfl
      have a1 := H1.out.two.cell 1 rfl
      have a2 := H1.out.two.cell 2 rfl
      have a3 := H1.out.two.cell 3 rfl
      have a4 := H1.out.two.cell 4 rfl
      have a5 := H1.out.two.cell 5 rfl
      go_wp2_with fail
      refine (few_calls a 30 (by omega) A cap H1.out HA.out.1 hca).mono ?_
      rintro e w2 ⟨rfl, h2⟩
      have H2 := Lib.hid h2
      clear h2 H1 a0 b0 a1 b1 a2 b2 a3 b3 a4 b4 a5 b5
      have b0 := H2.out.cell 0 rfl
      have b1 := H2.out.cell 1 rfl
      have b2 := H2.out.cell 2 rfl
      have b3 := H2.out.cell 3 rfl
      have b4 := H2.out.cell 4 rfl
      have b5 := H2.out.cell 5 rfl
      have a0 := H2.out.two.cell 0 rfl
      have a1 := H2.out.two.cell 1 rfl
      have a2 := H2.out.two.cell 2 rfl
      have a3 := H2.out.two.cell 3 rfl
      have a4 := H2.out.two.cell 4 rfl
      have a5 := H2.out.two.cell 5 rfl
      go_wp2_with fail
      refine (few_calls b 30 (by omega) A' cap' H2.out HA.out.2.1 hcb).mono ?_
      rintro e w3 ⟨rfl, h3⟩
      have H3 := Lib.hid h3
      clear h3 H2 a0 b0 a1 b1 a2 b2 a3 b3 a4 b4 a5 b5
      have b0 := H3.out.cell 0 rfl
      have b1 := H3.out.cell 1 rfl
      have b2 := H3.out.cell 2 rfl
      have b3 := H3.out.cell 3 rfl
      have b4 := H3.out.cell 4 rfl
      have b5 := H3.out.cell 5 rfl
      have a0 := H3.out.two.cell 0 rfl
      have a1 := H3.out.two.cell 1 rfl
      have a2 := H3.out.two.cell 2 rfl
      have a3 := H3.out.two.cell 3 rfl
      have a4 := H3.out.two.cell 4 rfl
      have a5 := H3.out.two.cell 5 rfl
      clear a0 b0 a1 b1 a2 b2 a3 b3 a4 b4 a5 b5
      go_wp2
      go_ret
      exact ⟨rfl, H3.out.below⟩
  · have esa : decide (sizeC a ≤ 30) = false := decide_eq_false hsa
    go_enter Try.func10, Try.ntmps10
    go_wp2_with fail
    refine (awake12_calls H.out).mono ?_
    rintro e w1 ⟨rfl, h1⟩
    have H1 := Lib.hid h1
    clear h1 H
    have b0 := H1.out.cell 0 rfl
    have b1 := H1.out.cell 1 rfl
    have b2 := H1.out.cell 2 rfl
    have b3 := H1.out.cell 3 rfl
    have b4 := H1.out.cell 4 rfl
    have b5 := H1.out.cell 5 rfl
    have a0 := H1.out.two.cell 0 rfl
    have a1 := H1.out.two.cell 1 rfl
    have a2 := H1.out.two.cell 2 rfl
    have a3 := H1.out.two.cell 3 rfl
    have a4 := H1.out.two.cell 4 rfl
    have a5 := H1.out.two.cell 5 rfl
    go_wp2_with fail
    refine (few_calls a 30 (by omega) A cap H1.out HA.out.1 hca).mono ?_
    rintro e w2 ⟨rfl, h2⟩
    have H2 := Lib.hid h2
    clear h2 H1 a0 b0 a1 b1 a2 b2 a3 b3 a4 b4 a5 b5
    have b0 := H2.out.cell 0 rfl
    have b1 := H2.out.cell 1 rfl
    have b2 := H2.out.cell 2 rfl
    have b3 := H2.out.cell 3 rfl
    have b4 := H2.out.cell 4 rfl
    have b5 := H2.out.cell 5 rfl
    have a0 := H2.out.two.cell 0 rfl
    have a1 := H2.out.two.cell 1 rfl
    have a2 := H2.out.two.cell 2 rfl
    have a3 := H2.out.two.cell 3 rfl
    have a4 := H2.out.two.cell 4 rfl
    have a5 := H2.out.two.cell 5 rfl
    clear a0 b0 a1 b1 a2 b2 a3 b3 a4 b4 a5 b5
    go_wp2
    go_ret
    exact ⟨rfl, H2.out.below⟩
end Go.Proofs.Ytkidoggmlafkgaa.Bd
