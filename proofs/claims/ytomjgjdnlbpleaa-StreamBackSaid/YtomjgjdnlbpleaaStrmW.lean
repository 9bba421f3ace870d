/- The walks of the writer's other methods, and of slices.Clone at octets. -/
import Derived.Test.YtomjgjdnlbpleaaStrmPut
import Derived.WalkSpells
namespace Go.Proofs.Ytomjgjdnlbpleaa.Stream
open Go.RowKit Go.Proofs.Ytomjgjdnlbpleaa.Sep Go.Proofs.Ytomjgjdnlbpleaa.Bits Go.Proofs.Ytomjgjdnlbpleaa.Num
variable {B : Nat} {w0 w : World} {R : HP} {a : Nat} {bits : List Bool}

theorem align_nil (w : World) :
    Calls Try.prog 19 #[.pointer none] w fun e w' => e = .returned (.tuple #[]) ∧ w = w' := by
  go_enter Try.func19, Try.ntmps19
  go_wp2
  go_end0
  exact ⟨rfl, rfl⟩

theorem align_calls (h : St B w0 w (Wr a bits • R)) (hb : bits.length ≤ 1000000000000) :
    Calls Try.prog 19 #[.pointer (some ⟨a, 0, none⟩)] w fun e w' => e = .returned (.tuple #[]) ∧ St B w0 w' (Wr a (alignB bits) • R) := by
  obtain ⟨v, t, h1⟩ := Wr.open_ h
  obtain ⟨_, A, c, rfl, -⟩ := h1.two.reads
  have hpl := pack_length bits
  have c0 : w.cell? ⟨a, 0, none⟩ = some (.slice A (pack bits).length c) := h1.cell 0 rfl
  have c1 : w.cell? ⟨a, 1, none⟩ = some (.int .i64 bits.length) := h1.cell 1 rfl
  have f1 := h1.free 1 (.inr (Nat.le_refl _))
  have hpb : (pack bits).length ≤ 1000000000000 := by omega
  have H1 := Lib.hid (And.intro h1 hpl)
  clear h h1 hpl
  go_enter Try.func19, Try.ntmps19
  go_wp2
  go_end0
  obtain ⟨h1, hpl⟩ := H1.out
  exact ⟨rfl, Wr.shut (h1.set 1 _) (by rw [alignB_length, hpl]; omega) (pack_alignB bits).symm⟩

theorem clone_calls (v : Value) (xs : List Int) (h : St B w0 w R) (hr : ∀ w', St B w0 w' R → Reads8 w' v xs) (hb : xs.length ≤ 70368744177664) :
    Calls Try.prog 52 #[v] w fun e w' => ∃ v', e = .returned v' ∧ St B w0 w' (Row8 v' xs • R) := by
  obtain ⟨hl, A, c, rfl, hc, hcm, hcell⟩ := hr w h
  cases A with
  | none =>
    have hx : xs = [] := by
      cases xs with
      | nil => rfl
      | cons x xs => obtain ⟨ad, e, _⟩ := hcell 0 _ rfl; cases e
    subst hx
    have e1 := fun (W : World) => Lib.run_eql_slice_nil (P := Try.prog) W 25 5 none 0 c 0 0 Try.underlying25
    have H := Lib.hid h
    clear h hr hcell hl
    go_enter Try.func52, Try.ntmps52
    go_wp2
    go_ret
    exact ⟨_, rfl, H.out.nil _ _⟩
  | some ad =>
    clear hl hcell
    have H := Lib.hid (And.intro h hr)
    clear h hr
    have e1 := fun (W : World) => Lib.run_eql_slice_nil (P := Try.prog) W 25 5 (some ad) xs.length c 0 0 Try.underlying25
    go_enter Try.func52, Try.ntmps52
    go_wp2_with (at_builtin; refine append8 rfl _ _ rfl (.slice (some ⟨w.heap.size, 0, none⟩) 0 0) (.slice (some ad) xs.length c) [] xs rfl (St.blkRow (H.out.1.alloc _) (Nat.le_refl _) (Nat.zero_le _) rfl (.inr (Nat.le_refl _)) rfl) rfl (H.out.2 _ (H.out.1.alloc _).drop) (by simpa using hb) ?_; intro v' w1 h2; rw [List.nil_append] at h2; have H2 := Lib.hid h2; clear h2)
    go_ret
    exact ⟨_, rfl, H2.out⟩

theorem bytes_nil (w : World) (h : St B w0 w R) :
    Calls Try.prog 24 #[.pointer none] w fun e w' => ∃ v', e = .returned v' ∧ St B w0 w' (Row8 v' [0] • R) := by
  have H := Lib.hid h
  clear h
  go_enter Try.func24, Try.ntmps24
  go_wp2
  go_ret
  exact ⟨_, rfl, St.blkRow (H.out.alloc _) (Nat.le_refl _) (by decide) rfl (.inr (Nat.le_refl _)) rfl⟩

theorem bytes_calls (h : St B w0 w (Wr a bits • R)) (hb : bits.length ≤ 1000000000000) :
    Calls Try.prog 24 #[.pointer (some ⟨a, 0, none⟩)] w fun e w' => ∃ v', e = .returned v' ∧ St B w0 w' (Row8 v' (bytesOf bits) • Wr a bits • R) := by
  obtain ⟨v, t, h1⟩ := Wr.open_ h
  have c0 : w.cell? ⟨a, 0, none⟩ = some v := h1.cell 0 rfl
  have c1 : w.cell? ⟨a, 1, none⟩ = some (.int .i64 bits.length) := h1.cell 1 rfl
  by_cases hn : bits = []
  · have hz : ((bits.length : Int) == 0) = true := by rw [hn]; rfl
    have H := Lib.hid (And.intro h hn)
    clear h h1 hn
    go_enter Try.func24, Try.ntmps24
    go_wp2
    go_ret
    refine ⟨_, rfl, ?_⟩
    rw [show bytesOf bits = [0] from by rw [H.out.2]; rfl]
    exact St.blkRow (H.out.1.alloc _) (Nat.le_refl _) (by decide) rfl (.inr (Nat.le_refl _)) rfl
  · have hz : ((bits.length : Int) == 0) = false := by
      rw [beq_eq_false_iff_ne]
      intro e
      exact hn (List.eq_nil_of_length_eq_zero (by omega))
    have e1 : bytesOf bits = pack bits := by simp [bytesOf, hn]
    have H := Lib.hid (And.intro h1 e1)
    have hpb : (pack bits).length ≤ 70368744177664 := by rw [pack_length]; omega
    clear h h1 hn e1
    go_enter Try.func24, Try.ntmps24
    go_wp2_with (go_at_call 52; refine (clone_calls v (pack bits) H.out.1 (fun w' h' => h'.two.reads) hpb).mono ?_; rintro e w1 ⟨v', rfl, h2⟩; have H2 := Lib.hid h2; clear h2)
    go_ret
    refine ⟨_, rfl, ?_⟩
    rw [H.out.2]
    exact (Wr.shut H2.out.two.three.two rfl rfl).two

end Go.Proofs.Ytomjgjdnlbpleaa.Stream
