/- The walk of the reference's Bytes. -/
import Derived.Test.YtomjgjdnlbpleaaRefB
namespace Go.Proofs.Ytomjgjdnlbpleaa.Stream
open Go.RowKit Go.Proofs.Ytomjgjdnlbpleaa.Sep Go.Proofs.Ytomjgjdnlbpleaa.Bits Go.Proofs.Ytomjgjdnlbpleaa.Num
variable {B : Nat} {w0 w : World} {R : HP} {a : Nat} {bits : List Bool}

/-- Octets that are being filled, from their lowest bit on. -/
def partF (l : List Bool) : List Int := (List.range ((l.length + 7) / 8)).map fun j => getB ((l.drop (8 * j)).take 8)
theorem partF_length (l : List Bool) : (partF l).length = (l.length + 7) / 8 := by simp [partF]
theorem partF_old (l : List Bool) (b : Bool) (j : Nat) (h : j < l.length / 8) : getB (((l ++ [b]).drop (8 * j)).take 8) = getB ((l.drop (8 * j)).take 8) := by
  rw [List.drop_append_of_le_length (by omega), List.take_append_of_le_length (by rw [List.length_drop]; omega)]
theorem partF_new (l : List Bool) (b : Bool) : getB (((l ++ [b]).drop (8 * (l.length / 8))).take 8) = 2 * getB ((l.drop (8 * (l.length / 8))).take 8) + b2i b := by
  rw [List.drop_append_of_le_length (by omega), List.take_of_length_le (by rw [List.length_append, List.length_drop]; simp; omega), getB_snoc, List.take_of_length_le (by rw [List.length_drop]; omega)]
def partRow (l : List Bool) : List Int := if l.length % 8 = 0 then partF l ++ [0] else partF l
def partAt (l : List Bool) : Int := getB ((l.drop (8 * (l.length / 8))).take 8)
theorem partRow_length (l : List Bool) : (partRow l).length = l.length / 8 + 1 := by
  unfold partRow
  split <;> simp [partF] <;> omega
theorem partRow_at (l : List Bool) : (partRow l)[l.length / 8]? = some (partAt l) := by
  unfold partRow partAt
  split
  · rename_i h
    have hl : (partF l).length = l.length / 8 := by simp [partF]; omega
    rw [List.getElem?_append_right (by omega), hl]
    have : l.length ≤ 8 * (l.length / 8) := by omega
    rw [List.drop_of_length_le this]
    simp [getB]
  · rename_i h
    have : l.length / 8 < (l.length + 7) / 8 := by omega
    simp [partF, List.getElem?_range this]
theorem partAt_range (l : List Bool) : 0 ≤ partAt l ∧ partAt l < 128 := by
  unfold partAt
  have h := getB_range ((l.drop (8 * (l.length / 8))).take 8)
  have hl : ((l.drop (8 * (l.length / 8))).take 8).length ≤ 7 := by rw [List.length_take, List.length_drop]; omega
  have hp : (2 : Int) ^ ((l.drop (8 * (l.length / 8))).take 8).length ≤ 2 ^ 7 := by
    have := Nat.pow_le_pow_right (show 0 < 2 by decide) hl
    exact_mod_cast this
  have : (2 : Int) ^ 7 = 128 := by decide
  omega
theorem partF_snoc (l : List Bool) (b : Bool) : partF (l ++ [b]) = (partRow l).set (l.length / 8) (2 * partAt l + b2i b) := by
  apply List.ext_getElem
  · rw [List.length_set, partRow_length, partF_length]; simp; omega
  · intro i h1 h2
    rw [partF_length] at h1
    simp at h1
    rw [List.getElem_set]
    by_cases hi : l.length / 8 = i
    · subst hi
      rw [if_pos rfl]
      simp only [partF, List.getElem_map, List.getElem_range]
      exact partF_new l b
    · rw [if_neg hi]
      have h3 : i < l.length / 8 := by omega
      have h4 : i < (partF l).length := by rw [partF_length]; omega
      have e : (partRow l)[i]'(by rw [partRow_length]; omega) = (partF l)[i] := by
        unfold partRow
        split
        · rw [List.getElem_append_left h4]
        · rfl
      rw [e]
      simp only [partF, List.getElem_map, List.getElem_range]
      exact partF_old l b i h3
theorem getB_eight (t : List Bool) (h : t.length = 8) : getB t = byteAt t 0 := by
  match t, h with
  | [a, b, c, d, e, f, g, h], _ => simp [getB, byteAt, bitAt]; omega
theorem partF_pack (l : List Bool) (h : l.length % 8 = 0) : partF l = pack l := by
  unfold partF pack
  refine List.map_congr_left fun j hj => ?_
  have hj : j < (l.length + 7) / 8 := List.mem_range.1 hj
  rw [getB_eight _ (by rw [List.length_take, List.length_drop]; omega)]
  have hb : ∀ k, k < 8 → bitAt ((l.drop (8 * j)).take 8) (8 * 0 + k) = bitAt l (8 * j + k) := fun k hk => by
    unfold bitAt
    congr 1
    simp only [List.getD, List.getElem?_take, List.getElem?_drop]
    rw [if_pos (by omega)]
    congr 2
    omega
  have h0 := hb 0 (by decide)
  simp only [Nat.add_zero] at h0
  unfold byteAt
  rw [h0, hb 1 (by decide), hb 2 (by decide), hb 3 (by decide), hb 4 (by decide), hb 5 (by decide), hb 6 (by decide), hb 7 (by decide)]

theorem strOf_get (m : List Bool) (k : Nat) (b : Bool) (hb : m[k]? = some b) (h : k < (strOf m).size) : (((strOf m)[k]'h).toNat : Int) = 48 + b2i b := by
  have hk : k < m.length := (List.getElem?_eq_some_iff.1 hb).1
  have hm : m[k] = b := by simpa [List.getElem?_eq_getElem hk] using hb
  have e : (strOf m)[k]'h = UInt8.ofNat (chrB m[k]).toNat := by
    show (strOf m).data[k]'h = _
    simp [strOf, strOfNums]
  rw [e, hm]
  cases b <;> rfl
theorem rbyte_step (q : List Bool) (m : List Bool) (k : Nat) (b : Bool) (hl : m.take k = q) (hq : q.length = k) (hb : m[k]? = some b) (h : k < (strOf m).size) {sv : Value} {g : Nat} (N : Nat) (hN : (partRow q).length = N)
    (hs : St B w0 (w.setCell ⟨g, k / 8, none⟩ (.int .u8 ((partAt q * 2 + ((strOf m)[k]'h).toNat - 48) % 256))) (RowV 5 1 sv N (((partRow q).map (Value.int .u8)).set (k / 8) (.int .u8 ((partAt q * 2 + ((strOf m)[k]'h).toNat - 48) % 256))) • R)) :
    St B w0 (w.setCell ⟨g, k / 8, none⟩ (.int .u8 ((partAt q * 2 + ((strOf m)[k]'h).toNat - 48) % 256))).drew (Row8 sv (partF (m.take (k + 1))) • R) := by
  have hk : k < m.length := (List.getElem?_eq_some_iff.1 hb).1
  have e : m.take (k + 1) = q ++ [b] := by
    rw [List.take_succ_eq_append_getElem hk, hl]
    congr 2
    simpa [List.getElem?_eq_getElem hk] using hb
  have hr := partAt_range q
  have hb2 := b2i_01 b
  have ev : (partAt q * 2 + ((strOf m)[k]'h).toNat - 48) % 256 = 2 * partAt q + b2i b := by
    rw [strOf_get m k b hb h]; omega
  have h2 := hs.drew
  rw [e, partF_snoc, hq]
  rw [ev] at h2 ⊢
  have el : ((partRow q).set (k / 8) (2 * partAt q + b2i b)).length = N := by rw [List.length_set, hN]
  show St B w0 _ (RowV _ 1 sv _ (((partRow q).set (k / 8) (2 * partAt q + b2i b)).map (Value.int .u8)) • R)
  rw [el, List.map_set]
  exact h2

theorem rbytes_calls (l : List Bool) (hb : l.length ≤ 1000000000000) (h : St B w0 w R) :
    Calls Try.prog 25 #[.string (strOf l)] w fun e w' => ∃ v', e = .returned v' ∧ St B w0 w' (Row8 v' (bytesOf l) • R) := by
  have HS := Lib.hid h
  clear h
  have hsz := strOf_size (alignB l)
  have hal := alignB_length l
  by_cases hn : l = []
  · have hz : (((strOf (alignB l)).size : Int) == 0) = true := by rw [hsz, hal, hn]; rfl
    have HN := Lib.hid hn
    clear hn hsz hal
    go_enter Try.func25, Try.ntmps25
    go_wp2_with (go_at_call 18; refine (ralign_calls l hb HS.out).mono ?_; rintro e w1 ⟨rfl, h2⟩; have H2 := Lib.hid h2; clear h2)
    go_ret
    refine ⟨_, rfl, ?_⟩
    rw [show bytesOf l = [0] from by rw [HN.out]; rfl]
    exact St.blkRow (H2.out.alloc _) (Nat.le_refl _) (by decide) rfl (.inr (Nat.le_refl _)) rfl
  · have hlen : 0 < l.length := List.length_pos_iff.2 hn
    obtain ⟨m, hm⟩ : ∃ m, alignB l = m := ⟨_, rfl⟩
    rw [hm] at hsz hal
    obtain ⟨N, hN⟩ : ∃ N, m.length = N := ⟨_, rfl⟩
    rw [hN] at hsz hal
    have hN1 : 0 < N := by omega
    have hN2 : N ≤ 1000000000008 := by omega
    have hN8 : N % 8 = 0 := by omega
    have hz : ((N : Int) == 0) = false := by rw [beq_eq_false_iff_ne]; omega
    have HM := Lib.hid (And.intro hm (And.intro hN (And.intro hN8 hn)))
    have HZ := Lib.hid hsz
    clear hm hN hal hn hN8 hsz
    go_enter Try.func25, Try.ntmps25
    go_wp2_with (go_at_call 18; refine (ralign_calls l hb HS.out).mono ?_; rw [HM.out.1]; rintro e w1 ⟨rfl, h2⟩; have hsz := HZ.out; have H2 := Lib.hid h2; clear h2)
    go_loopw [3, 4] (fun vo i wr => ∃ k : Nat, k ≤ N ∧ i = .int .i64 k ∧ Hid (St B w0 wr (Row8 vo (partF (m.take k)) • R))) (fun _ i _ => N - (intOf i).toNat)
    case atStart => exact ⟨0, Nat.zero_le _, rfl, Lib.hid (by rw [List.take_zero]; exact H2.out.nil _ _)⟩
    case round =>
      clear H2
      obtain ⟨k, hk, rfl, H3⟩ := hrel
      by_cases hlt : k < N
      · generalize hl : m.take k = q at H3
        have hq : q.length = k := by rw [← hl, List.length_take, HM.out.2.1]; omega
        have HQ := Lib.hid (And.intro hl hq)
        clear hl hq
        by_cases h8 : k % 8 = 0
        · have hb8 : ((k : Int) % 8 == 0) = true := by rw [beq_iff_eq]; omega
          have hrow : partRow q = partF q ++ [0] := by unfold partRow; rw [if_pos (by rw [HQ.out.2]; exact h8)]
          have hpl : (partF q).length = k / 8 := by rw [partF_length, HQ.out.2]; omega
          have HF := Lib.hid (And.intro hrow hpl)
          have H8 := Lib.hid h8
          clear hrow hpl h8
          go_wp2_with (at_builtin; refine append8s rfl _ _ rfl u3 _ (partF q) [0] (k / 8 + 1) rfl (H3.out.alloc _).two rfl (St.blkReads (H3.out.alloc _) rfl rfl rfl (by simp)) (by rw [HF.out.2]; rfl) (by omega) (by omega) ?_; intro g cap w2 hc1 hc2 h4; have H4 := Lib.hid h4.two.drop; clear h4)
          have h4 := H4.out
          rw [← HF.out.1] at h4
          have hpr : (partRow q).length = k / 8 + 1 := by rw [partRow_length, HQ.out.2]
          obtain ⟨g2, cap2, e2, hcap, hcm, hcell, hfree, hset⟩ := h4.rowFull (by rw [hpr]; omega)
          obtain ⟨rfl, rfl⟩ : g = g2 ∧ cap = cap2 := by
            simp only [Value.slice.injEq, Option.some.injEq, Addr.mk.injEq] at e2
            exact ⟨e2.1.1, e2.2.2⟩
          clear e2 H4
          have hx := partRow_at q
          rw [HQ.out.2] at hx
          have cx := hcell (k / 8) _ (by rw [List.getElem?_map, hx]; rfl)
          have fx := hfree (k / 8) (by rw [hpr]; omega)
          have hr := partAt_range q
          have HG := Lib.hid (And.intro hset hpr)
          clear hcell hfree hset hx hpr h4
          have hsz := HZ.out
          go_region
          go_wp2
          obtain ⟨b, hbk⟩ : ∃ b, m[k]? = some b := ⟨_, List.getElem?_eq_getElem (by rw [HM.out.2.1]; exact hlt)⟩
          refine ⟨⟨k + 1, by omega, by go_num, Lib.hid ?_⟩, by simp [intOf]; omega⟩
          obtain ⟨hset, hpr⟩ := HG.out
          refine rbyte_step q m k b HQ.out.1 HQ.out.2 hbk _ _ rfl ?_
          have h5 := hset (k / 8)
          exact h5 _ (by rw [hpr]; omega)
        · have hb8 : ((k : Int) % 8 == 0) = false := by rw [beq_eq_false_iff_ne]; omega
          have hrow : partRow q = partF q := by unfold partRow; rw [if_neg (by rw [HQ.out.2]; exact h8)]
          have hpl : (partF q).length = k / 8 + 1 := by rw [← hrow, partRow_length, HQ.out.2]
          obtain ⟨g, cap, rfl, hcap, hcm, hcell, hfree, hset⟩ := H3.out.rowFull (by rw [hpl]; omega)
          have hx := partRow_at q
          rw [hrow, HQ.out.2] at hx
          have cx := hcell (k / 8) _ (by rw [List.getElem?_map, hx]; rfl)
          have fx := hfree (k / 8) (by rw [hpl]; omega)
          have hr := partAt_range q
          have HF := Lib.hid (And.intro hset (And.intro hrow hpl))
          have hkl : k / 8 < (partF q).length := by rw [hpl]; omega
          clear hcell hfree hset hx hrow hpl
          go_wp2
          go_region
          go_wp2
          obtain ⟨b, hbk⟩ : ∃ b, m[k]? = some b := ⟨_, List.getElem?_eq_getElem (by rw [HM.out.2.1]; exact hlt)⟩
          refine ⟨⟨k + 1, by omega, by go_num, Lib.hid ?_⟩, by simp [intOf]; omega⟩
          obtain ⟨hset, hrow, hpl⟩ := HF.out
          refine rbyte_step q m k b HQ.out.1 HQ.out.2 hbk _ _ (by rw [hrow]) ?_
          rw [hrow]
          exact hset (k / 8) _ (by rw [hpl]; omega)
      · go_wp2
        go_ret
        refine ⟨_, rfl, ?_⟩
        have h5 := H3.out
        rw [List.take_of_length_le (by rw [HM.out.2.1]; omega), partF_pack m (by rw [HM.out.2.1]; exact HM.out.2.2.1)] at h5
        rw [show bytesOf l = pack m from by rw [← HM.out.1, pack_alignB]; simp [bytesOf, HM.out.2.2.2]]
        exact h5

end Go.Proofs.Ytomjgjdnlbpleaa.Stream
