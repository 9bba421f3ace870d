/- What is read of what was written: plain lists of bits, no program. -/
import Derived.Test.YtomjgjdnlbpleaaRdM
import Derived.Test.YtomjgjdnlbpleaaOps
namespace Go.Proofs.Ytomjgjdnlbpleaa.Stream
open Go.Proofs.Ytomjgjdnlbpleaa.Bits Go.Proofs.Ytomjgjdnlbpleaa.Num

def bOp (L : List Bool) (o : OpD) : List Bool := if o.what = 0 then putL L o.v o.w else if o.what = 1 then alignB L else L ++ unpack o.b
def goodO (o : OpD) : Prop := o.what = 0 → putErr o.v o.w = 0
def allB (D : List OpD) : List Bool := D.foldl bOp []
theorem allB_snoc (D : List OpD) (o : OpD) : allB (D ++ [o]) = bOp (allB D) o := by simp [allB]
theorem bOp_pre (L : List Bool) (o : OpD) : ∃ t, bOp L o = L ++ t := by
  unfold bOp putL
  split
  · split
    · exact ⟨_, rfl⟩
    · exact ⟨[], by simp⟩
  · split
    · exact ⟨_, rfl⟩
    · exact ⟨_, rfl⟩
theorem foldl_pre (E : List OpD) (L : List Bool) : ∃ t, E.foldl bOp L = L ++ t := by
  induction E generalizing L with
  | nil => exact ⟨[], by simp⟩
  | cons o E ih =>
    obtain ⟨t, ht⟩ := bOp_pre L o
    obtain ⟨t2, ht2⟩ := ih (bOp L o)
    exact ⟨t ++ t2, by rw [List.foldl_cons, ht2, ht, List.append_assoc]⟩
theorem allB_take (D : List OpD) (k : Nat) : ∃ t, allB D = allB (D.take k) ++ t := by
  obtain ⟨t, ht⟩ := foldl_pre (D.drop k) (allB (D.take k))
  refine ⟨t, ?_⟩
  rw [← ht]
  unfold allB
  rw [← List.foldl_append, List.take_append_drop]
theorem allB_at (D : List OpD) (k : Nat) (o : OpD) (h : D[k]? = some o) : allB (D.take (k + 1)) = bOp (allB (D.take k)) o := by
  have hk := (List.getElem?_eq_some_iff.1 h).1
  have e : D[k] = o := by rw [List.getElem?_eq_getElem hk] at h; exact Option.some.inj h
  rw [List.take_succ_eq_append_getElem hk, allB_snoc, e]
theorem all_pre (D : List OpD) (P : List Bool) (h : ∃ r, P = allB D ++ r) (k : Nat) (o : OpD) (hk : D[k]? = some o) : ∃ r, P = bOp (allB (D.take k)) o ++ r := by
  obtain ⟨r, rfl⟩ := h
  obtain ⟨t, ht⟩ := allB_take D (k + 1)
  refine ⟨t ++ r, ?_⟩
  rw [ht, allB_at D k o hk, List.append_assoc]

theorem putErr_zero {v w : Int} (h : putErr v w = 0) : 0 ≤ w ∧ w ≤ 64 ∧ wideB v w = false := by
  unfold putErr at h
  by_cases hc : w < 0 ∨ 64 < w ∨ wideB v w = true
  · rw [if_pos hc] at h; cases h
  · refine ⟨by omega, by omega, ?_⟩
    cases hb : wideB v w
    · rfl
    · exact absurd (.inr (.inr hb)) hc
theorem back_get (L r : List Bool) (v w : Int) (h : putErr v w = 0) (hv : 0 ≤ v ∧ v < 18446744073709551616) :
    getE (putL L v w ++ r) L.length w = 0 ∧ getV (putL L v w ++ r) L.length w = v ∧ getP (putL L v w ++ r) L.length w = (putL L v w).length := by
  obtain ⟨h0, h64, hw⟩ := putErr_zero h
  obtain ⟨n, rfl⟩ := Int.eq_ofNat_of_zero_le h0
  have e : putL L v n = L ++ putB v n := by rw [putL, h]; rfl
  rw [e]
  have hE : getE (L ++ putB v n ++ r) L.length n = 0 := getE_of h0 h64 (by simp [putB_length]; omega)
  refine ⟨hE, ?_, ?_⟩
  · rw [getV, if_pos hE, List.append_assoc, List.drop_left, show ((n : Int).toNat) = n from rfl]
    have ht : (putB v n ++ r).take n = putB v n := by
      have := List.take_left (l₁ := putB v n) (l₂ := r)
      rwa [putB_length] at this
    rw [ht, getB_putB]
    refine Int.emod_eq_of_lt hv.1 ?_
    by_cases hn : n < 64
    · have hp : (0 : Int) < 2 ^ n := Int.pow_pos (by decide)
      have hz : v / 2 ^ n = 0 := by
        unfold wideB at hw
        rw [show decide ((n : Int) < 64) = true from by simp; omega] at hw
        simpa using hw
      have := Int.lt_ediv_add_one_mul_self v hp
      rw [hz] at this
      omega
    · obtain rfl : n = 64 := by omega
      exact hv.2
  · rw [getP, if_pos hE]
    simp [putB_length]
theorem back_align (L r : List Bool) : alignE (alignB L ++ r) L.length = 0 ∧ alignP (alignB L ++ r) L.length = (alignB L).length := by
  have hE : alignE (alignB L ++ r) L.length = 0 := by
    unfold alignE
    rw [anyB_false]
    · rfl
    · intro k h1 h2
      have hl := alignB_length L
      unfold upTo8 at h2
      rw [List.getElem?_append_left (by omega)]
      unfold alignB
      rw [List.getElem?_append_right h1, List.getElem?_replicate]
      split <;> simp
  refine ⟨hE, ?_⟩
  rw [alignP, if_pos hE, alignB_length, upTo8]
  omega
theorem unpack_drop (b : List Int) (i : Nat) (hi : i < b.length) : ∃ t, (unpack b).drop (8 * i) = putB b[i] 8 ++ t := by
  have e : unpack b = unpack (b.take i) ++ (putB b[i] 8 ++ unpack (b.drop (i + 1))) := by
    have h1 : b = b.take i ++ (b[i] :: b.drop (i + 1)) := by rw [List.getElem_cons_drop, List.take_append_drop]
    conv => lhs; rw [h1]
    rw [unpack_append, unpack_cons]
  refine ⟨unpack (b.drop (i + 1)), ?_⟩
  rw [e]
  have hl : (unpack (b.take i)).length = 8 * i := by rw [unpack_length, List.length_take]; omega
  rw [← hl, List.drop_left]
theorem back_octs (L r : List Bool) (b : List Int) (hb : ∀ x ∈ b, 0 ≤ x ∧ x < 256) :
    octE (L ++ unpack b ++ r) L.length b.length = 0 ∧ octV (L ++ unpack b ++ r) L.length b.length = b ∧ octP (L ++ unpack b ++ r) L.length b.length = (L ++ unpack b).length := by
  have hE : octE (L ++ unpack b ++ r) L.length b.length = 0 := octE_of (Int.natCast_nonneg _) (by simp only [List.length_append, unpack_length]; omega)
  refine ⟨hE, ?_, ?_⟩
  · rw [octV, if_pos hE]
    apply List.ext_getElem
    · rw [octL_length]; rfl
    · intro i h1 h2
      simp only [octL, List.getElem_map, List.getElem_range]
      obtain ⟨t, ht⟩ := unpack_drop b i h2
      rw [List.append_assoc, List.drop_append, List.drop_of_length_le (by omega), List.nil_append, show L.length + 8 * i - L.length = 8 * i from by omega,
        List.drop_append_of_le_length (by rw [unpack_length]; omega), ht, List.append_assoc]
      have h8 : (putB b[i] 8 ++ (t ++ r)).take 8 = putB b[i] 8 := by
        have := List.take_left (l₁ := putB b[i] 8) (l₂ := t ++ r)
        rwa [putB_length] at this
      rw [h8, getB_putB]
      have := hb b[i] (List.getElem_mem _)
      omega
  · rw [octP, if_pos hE]
    simp [unpack_length]
theorem bytes_pre (L : List Bool) : ∃ r, unpack (bytesOf L) = L ++ r := by
  unfold bytesOf
  split
  · rename_i h; subst h; exact ⟨_, rfl⟩
  · exact ⟨_, unpack_pack L⟩
theorem back_end (L : List Bool) : endE (unpack (bytesOf L)) L.length = 0 := by
  unfold endE
  by_cases h : L = []
  · subst h
    rw [if_pos ⟨rfl, by decide⟩]
  · have hl : L.length ≠ 0 := fun e => h (List.eq_nil_of_length_eq_zero e)
    have e : unpack (bytesOf L) = alignB L := by unfold bytesOf; rw [if_neg h, unpack_pack]
    have := alignB_length L
    rw [if_neg (fun c => hl c.1), e, if_neg (by omega)]
    have := (back_align L []).1
    simpa using this
theorem bOp_length (L : List Bool) (o : OpD) (ho : o.b.length ≤ 100) : (bOp L o).length ≤ L.length + 10000 := by
  unfold bOp
  split
  · have := putL_length L o.v o.w; omega
  · split
    · have := alignB_length L; omega
    · rw [List.length_append, unpack_length]; omega
end Go.Proofs.Ytomjgjdnlbpleaa.Stream
