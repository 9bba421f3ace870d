/- The walk of Writer.Octets. -/
import Derived.Test.YtomjgjdnlbpleaaStrmW
namespace Go.Proofs.Ytomjgjdnlbpleaa.Stream
open Go.RowKit Go.Proofs.Ytomjgjdnlbpleaa.Sep Go.Proofs.Ytomjgjdnlbpleaa.Bits Go.Proofs.Ytomjgjdnlbpleaa.Num
variable {B : Nat} {w0 w : World} {R : HP} {a : Nat} {bits : List Bool}

theorem octets_nil (v : Value) (w : World) :
    Calls Try.prog 21 #[.pointer none, v] w fun e w' => e = .returned (.int .i64 1) ∧ w = w' := by
  go_enter Try.func21, Try.ntmps21
  go_wp2
  go_ret
  exact ⟨rfl, rfl⟩

theorem wide8 (x : Int) (h : 0 ≤ x ∧ x < 256) : wideB x 8 = false := by
  have : x / 2 ^ (8 : Int).toNat = 0 := Int.ediv_eq_zero_of_lt h.1 h.2
  unfold wideB
  rw [this]
  rfl

theorem unpack_take_succ (xs : List Int) (k : Nat) (x : Int) (h : xs[k]? = some x) : unpack (xs.take (k + 1)) = unpack (xs.take k) ++ putB x 8 := by
  have hk : k < xs.length := (List.getElem?_eq_some_iff.1 h).1
  have hx : xs[k] = x := by simpa [List.getElem?_eq_getElem hk] using h
  rw [List.take_succ_eq_append_getElem hk, unpack_append, hx]
  simp [unpack]

theorem octets_calls (v : Value) (xs : List Int) (h : St B w0 w (Wr a bits • R)) (hr : ∀ w', St B w0 w' R → Reads8 w' v xs) (hx : ∀ x ∈ xs, 0 ≤ x ∧ x < 256) (hb : bits.length ≤ 100000000000) (hxb : xs.length ≤ 10000000000) :
    Calls Try.prog 21 #[.pointer (some ⟨a, 0, none⟩), v] w fun e w' => e = .returned (.int .i64 0) ∧ St B w0 w' (Wr a (bits ++ unpack xs) • R) := by
  by_cases h8 : bits.length % 8 = 0
  · obtain ⟨rv, t, h1⟩ := Wr.open_ h
    have c0 : w.cell? ⟨a, 0, none⟩ = some rv := h1.cell 0 rfl
    have c1 : w.cell? ⟨a, 1, none⟩ = some (.int .i64 bits.length) := h1.cell 1 rfl
    have f1 := h1.free 1 (.inr (Nat.le_refl _))
    have hz : ((bits.length : Int) % 8 == 0) = true := by rw [beq_iff_eq]; omega
    have hpl : (pack bits).length = bits.length / 8 := by rw [pack_length]; omega
    have rr := hr w h.drop
    obtain ⟨_, A, c, rfl, hc, hcm, _⟩ := id rr
    have H := Lib.hid (And.intro h1 (And.intro rr hpl))
    have H8 := Lib.hid h8
    clear h h1 hr rr hpl h8
    go_enter Try.func21, Try.ntmps21
    go_wp2_with (at_builtin; refine append8 rfl _ _ rfl rv (.slice A xs.length c) (pack bits) xs rfl H.out.1.two rfl H.out.2.1 (by rw [H.out.2.2]; omega) ?_; intro v' w1 h2; obtain ⟨_, A', c', rfl, -⟩ := id h2.reads; have c0' : w1.cell? ⟨a, 0, none⟩ = some rv := h2.two.cell 0 rfl; have c1' : w1.cell? ⟨a, 1, none⟩ = some (.int .i64 bits.length) := h2.two.cell 1 rfl; have f0' := h2.two.free 0 (.inr (Nat.le_refl _)); have f1' := h2.two.free 1 (.inr (Nat.le_refl _)); have H2 := Lib.hid h2; clear h2 c0 c1 f1)
    go_ret
    refine ⟨rfl, Wr.shut (v := .slice A' ((pack bits).length + xs.length) c') (t := t) (k := (bits.length : Int) + (xs.length : Int) * 8) (xs := pack bits ++ xs) ?_ ?_ ?_⟩
    · have h4 := (H2.out.two.set 0 (.slice A' ((pack bits).length + xs.length) c')).set 1 (.int .i64 ((bits.length : Int) + (xs.length : Int) * 8))
      simp only [List.length_append] at h4 ⊢
      exact h4
    · rw [List.length_append, unpack_length]; omega
    · rw [pack_append_whole _ _ H8.out, pack_unpack _ hx]
  · obtain ⟨rv, t, h1⟩ := Wr.open_ h
    have c1 : w.cell? ⟨a, 1, none⟩ = some (.int .i64 bits.length) := h1.cell 1 rfl
    have hz : ((bits.length : Int) % 8 == 0) = false := by rw [beq_eq_false_iff_ne]; omega
    obtain ⟨_, A, c, rfl, hc, hcm, _⟩ := id (hr w h.drop)
    have H := Lib.hid (And.intro h hr)
    clear h h1 hr h8
    have hxm : xs.length ≤ 9223372036854775807 := by omega
    go_enter Try.func21, Try.ntmps21
    go_wp2
    go_loopw [36] (fun i wr => ∃ k : Nat, k ≤ xs.length ∧ i = .int .i64 k ∧ Hid (St B w0 wr (Wr a (bits ++ unpack (xs.take k)) • R))) (fun i _ => xs.length - (intOf i).toNat)
    case atStart => exact ⟨0, Nat.zero_le _, rfl, Lib.hid (by simpa [unpack] using H.out.1)⟩
    case round =>
      obtain ⟨k, hk, rfl, HS⟩ := hrel
      by_cases hlt : k < xs.length
      · obtain ⟨x, hxk⟩ : ∃ x, xs[k]? = some x := ⟨_, List.getElem?_eq_getElem hlt⟩
        obtain ⟨_, A', c', e, _, _, hcell⟩ := H.out.2 wr HS.out.drop
        obtain ⟨ad, e2, hcx⟩ := hcell k _ (by rw [List.getElem?_map, hxk]; rfl)
        simp only [Value.slice.injEq] at e
        obtain ⟨rfl, -, -⟩ := e
        subst e2
        have hxr := hx x (List.mem_of_getElem? hxk)
        have hl : (bits ++ unpack (xs.take k)).length ≤ 1000000000000 := by
          rw [List.length_append, unpack_length, List.length_take]; omega
        have HL := Lib.hid hl
        have HXK := Lib.hid (And.intro hxk hxr)
        obtain ⟨hx0, hx1⟩ := hxr
        clear hl hcell hxk hx
        go_wp2_with (go_at_call 17; refine (put_calls x 8 (by decide) (by decide) (by omega) (by omega) (wide8 x HXK.out.2) HL.out HS.out).mono ?_; rintro e w1 ⟨rfl, h2⟩; have H2 := Lib.hid h2; clear h2)
        refine ⟨⟨k + 1, by omega, by go_num, Lib.hid ?_⟩, by simp [intOf]; omega⟩
        rw [unpack_take_succ xs k x HXK.out.1, ← List.append_assoc]
        exact H2.out
      · go_wp2
        go_ret
        exact ⟨rfl, by simpa [List.take_of_length_le (Nat.le_of_not_lt hlt)] using HS.out⟩

end Go.Proofs.Ytomjgjdnlbpleaa.Stream
