/- The walk of the law's awake at layer 11. -/
import Derived.Test.YtkidoggmlafkgaaSpR
import Derived.Test.YtkidoggmlafkgaaSpT
import Derived.Test.YtkidoggmlafkgaaSpU
namespace Go.Proofs.Ytkidoggmlafkgaa.Span
open Go.RowKit Go.Proofs.Ytkidoggmlafkgaa.Sep
variable {B : Nat} {w0 w : World} {R : HP}

theorem lit {g : Nat} {cs : Array Value} (s : List Rg) (h : St B w0 w (Blk g (.cells cs 32 (0, 0)) • R)) (hs : cs.toList = cells2 s) (hl : s.length ≤ 1000) : St B w0 w (Row2 (.slice (some ⟨g, 0, none⟩) s.length s.length) s • R) := by
  have hz : cs.size = s.length * 2 := by rw [← Array.length_toList, hs, cells2_length]
  refine h.blkRow (Nat.le_refl _) (by simp only [maxLen]; omega) hz (.inr (Nat.le_refl _)) ?_
  rw [hs]
  exact List.take_of_length_le (by rw [cells2_length]; exact Nat.le_refl _)
theorem right_whole : right [(minI, maxI)] := right_one (by decide)
theorem has_whole (n : Int) (h1 : minI ≤ n) (h2 : n ≤ maxI) : hasB [(minI, maxI)] n = true := by
  rw [hasB_cons, inR_eq.2 ⟨h1, h2⟩]
  rfl
theorem ok_whole : ∀ r ∈ [(minI, maxI)], okR r := by
  intro r hr
  obtain rfl := List.mem_singleton.1 hr
  exact ⟨Int.le_refl _, show minI ≤ maxI by decide, show minI ≤ maxI by decide, Int.le_refl _⟩
def okB (r : Rg) : Bool := decide (minI ≤ r.1) && decide (r.1 ≤ maxI) && decide (minI ≤ r.2) && decide (r.2 ≤ maxI)
theorem okB_all {s : List Rg} (h : s.all okB = true) : ∀ r ∈ s, okR r := by
  intro r hr
  have h1 := List.all_eq_true.1 h r hr
  simp only [okB, Bool.and_eq_true, decide_eq_true_eq] at h1
  exact ⟨h1.1.1.1, h1.1.1.2, h1.1.2, h1.2⟩

set_option maxHeartbeats 2000000 in
theorem awake_calls (h : St B w0 w R) :
    Calls Try.prog 13 #[] w fun e w' => e = .returned (.bool true) ∧ St B w0 w' R := by
  have H := Lib.hid h
  clear h
  go_enter Try.func13, Try.ntmps13
  go_wp2_with fail
  refine (norm_calls _ [(5, 7), (1, 3), (4, 4)] (lit _ (H.out.alloc _) rfl (by decide)) (fun W hW => St.r2 hW) (by decide) (okB_all (by decide))).mono ?_
  rintro e w1 ⟨v1, u1, rfl, a1, a2, -, -, a3⟩
  have e1 : u1 = [(1, 7)] := uniq a1 (right_one (by decide)) fun n => by
    rw [a2, Bool.eq_iff_iff]
    simp [hasB, inR]
    omega
  subst e1
  have H1 := Lib.hid a3.drop2
  clear a1 a2 a3 H
  go_wp2_with fail
  refine (minus_calls _ _ [(1, 9)] [(3, 4)] (alloc_at (n := w1.heap.size + 1) (H1.out.alloc _) _ (by simp)) (fun W hW => St.r2 (lit [(1, 9)] hW.two rfl (by decide))) (fun W hW => St.r2 (lit [(3, 4)] hW rfl (by decide))) (by decide) (by decide) (okB_all (by decide)) (okB_all (by decide))).mono ?_
  rintro e w2 ⟨v2, u2, rfl, a1, a2, -, -, a3⟩
  have e1 : u2 = [(1, 2), (5, 9)] := uniq a1 ⟨0, by decide, by decide, by decide, by decide, trivial⟩ fun n => by
    rw [a2, Bool.eq_iff_iff]
    simp [hasB, inR]
    omega
  subst e1
  have H2 := Lib.hid a3.drop2.drop2
  clear a1 a2 a3 H1
  go_wp2_with fail
  refine (same_calls v1 _ [(1, 7)] [(1, 7)] (H2.out.alloc _) (fun W hW => St.r2 hW.three) (fun W hW => St.r2 (lit [(1, 7)] hW rfl (by decide)))).mono ?_
  rintro e w3 ⟨rfl, h3⟩
  rw [show decide (([(1, 7)] : List Rg) = [(1, 7)]) = true from decide_eq_true rfl]
  have H3 := Lib.hid h3.drop
  clear h3 H2
  go_wp2_with fail
  refine (same_calls v2 _ [(1, 2), (5, 9)] [(1, 2), (5, 9)] (H3.out.alloc _) (fun W hW => St.r2 hW.two) (fun W hW => St.r2 (lit [(1, 2), (5, 9)] hW rfl (by decide)))).mono ?_
  rintro e w4 ⟨rfl, h3⟩
  rw [show decide (([(1, 2), (5, 9)] : List Rg) = [(1, 2), (5, 9)]) = true from decide_eq_true rfl]
  have H4 := Lib.hid h3.drop.drop
  clear h3 H3
  go_wp2_with fail
  refine (right_calls v1 [(1, 7)] H4.out (fun W hW => St.r2 hW) (okB_all (by decide))).mono ?_
  rintro e w5 ⟨rfl, h3⟩
  rw [show rightB none [(1, 7)] = true from by decide]
  have H5 := Lib.hid h3
  clear h3 H4
  go_wp2_with fail
  refine (whole_calls H5.out).mono ?_
  rintro e w6 ⟨v6, rfl, h3⟩
  have H6 := Lib.hid h3
  clear h3 H5
  go_wp2_with fail
  refine (same_calls v6 _ [(minI, maxI)] [(minI, maxI)] (H6.out.alloc _) (fun W hW => St.r2 hW.two) (fun W hW => St.r2 (lit [(minI, maxI)] hW rfl (by decide)))).mono ?_
  rintro e w7 ⟨rfl, h3⟩
  rw [show decide (([(minI, maxI)] : List Rg) = [(minI, maxI)]) = true from decide_eq_true rfl]
  have H7 := Lib.hid h3.drop.drop.drop
  clear h3 H6
  go_wp2
  go_ret
  exact ⟨rfl, H7.out⟩
end Go.Proofs.Ytkidoggmlafkgaa.Span
