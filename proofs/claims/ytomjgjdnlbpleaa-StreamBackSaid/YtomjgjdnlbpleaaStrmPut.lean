/- The walk of Writer.Put. -/
import Derived.Test.YtomjgjdnlbpleaaStrm
import Derived.Test.YtomjgjdnlbpleaaNum
import Derived.StillTailTactics
import Derived.BigRegion
import Derived.Deep.DeepCutAuto
import Derived.Deep.QuietTactic
import Derived.BigQuiet
namespace Go.Proofs.Ytomjgjdnlbpleaa.Stream
open Go.RowKit Go.Proofs.Ytomjgjdnlbpleaa.Sep Go.Proofs.Ytomjgjdnlbpleaa.Bits Go.Proofs.Ytomjgjdnlbpleaa.Num
variable {B : Nat} {w0 w : World} {R : HP} {a : Nat} {bits : List Bool}

/-- Does a number need more bits? -/
def wideB (v width : Int) : Bool := decide (width < 64) && (v / 2 ^ width.toNat != 0)
theorem wide_calls (v width : Int) (w : World) (hw0 : 0 ≤ width) :
    Calls Try.prog 51 #[.int .u64 v, .int .i64 width] w fun e w' => e = .returned (.bool (wideB v width)) ∧ w = w' := by
  by_cases h : width < 64
  · have hm : min width.toNat 64 = width.toNat := by omega
    have hf : wideB v width = (v / 2 ^ width.toNat != 0) := by simp [wideB, h]
    have HF := Lib.hid hf
    clear hf
    go_enter Try.func51, Try.ntmps51
    go_wp2
    go_ret
    exact ⟨by rw [HF.out]; rfl, rfl⟩
  · have hf : wideB v width = false := by simp [wideB, h]
    have HF := Lib.hid hf
    clear hf
    go_enter Try.func51, Try.ntmps51
    go_wp2
    go_ret
    exact ⟨by rw [HF.out]; rfl, rfl⟩

/-- What Put answers. -/
def putErr (v width : Int) : Int := if width < 0 ∨ 64 < width ∨ wideB v width = true then 1 else 0

theorem put_nil (v width : Int) (w : World) :
    Calls Try.prog 17 #[.pointer none, .int .u64 v, .int .i64 width] w fun e w' => e = .returned (.int .i64 1) ∧ w = w' := by
  go_enter Try.func17, Try.ntmps17
  go_wp2
  go_ret
  exact ⟨rfl, rfl⟩

theorem put_bad (v width : Int) (w : World) (a : Addr) (hw : width < 0 ∨ 64 < width) :
    Calls Try.prog 17 #[.pointer (some a), .int .u64 v, .int .i64 width] w fun e w' => e = .returned (.int .i64 1) ∧ w = w' := by
  by_cases h : width < 0
  · go_enter Try.func17, Try.ntmps17
    go_wp2
    go_ret
    exact ⟨rfl, rfl⟩
  · have h2 : 64 < width := by omega
    go_enter Try.func17, Try.ntmps17
    go_wp2
    go_ret
    exact ⟨rfl, rfl⟩

theorem put_wide (v width : Int) (w : World) (a : Addr) (h0 : 0 ≤ width) (h1 : width ≤ 64) (hw : wideB v width = true) :
    Calls Try.prog 17 #[.pointer (some a), .int .u64 v, .int .i64 width] w fun e w' => e = .returned (.int .i64 1) ∧ w = w' := by
  go_enter Try.func17, Try.ntmps17
  go_wp2_with (go_at_call 51; refine (wide_calls _ _ _ (by omega)).mono ?_; rintro e w' ⟨rfl, rfl⟩)
  go_ret
  exact ⟨rfl, rfl⟩

theorem put_step {v : Int} {n k m : Nat} {l : List Bool} {bb : Bool} {sv : Value} {t : TypeId} {u : Value} {i : Nat} (hll : bits ++ putB (v / 2 ^ (n - k)) k = l) (hl : l.length = m) (hbb : decide (v / 2 ^ (n - 1 - k) % 2 = 1) = bb) (hlt : k < n)
    (h : St B w0 (w.setCell ⟨i, m / 8, none⟩ (Value.int .u8 (Go.bits .or .u8 (byteAt l (m / 8)) (b2i bb * 2 ^ (7 - m % 8) % 256))))
      (RowV 5 1 sv (rowFor l).length (((rowFor l).map (Value.int .u8)).set (m / 8) (Value.int .u8 (Go.bits .or .u8 (byteAt l (m / 8)) (b2i bb * 2 ^ (7 - m % 8) % 256)))) • Blk a (.cells #[sv, u] t (0, 0)) • R)) :
    St B w0 ((w.setCell ⟨i, m / 8, none⟩ (Value.int .u8 (Go.bits .or .u8 (byteAt l (m / 8)) (b2i bb * 2 ^ (7 - m % 8) % 256)))).setCell ⟨a, 1, none⟩ (.int .i64 ((m : Int) + 1))).drew
      (Wr a (bits ++ putB (v / 2 ^ (n - (k + 1))) (k + 1)) • R) := by
  subst hl
  rw [or_bit _ _ _ (Nat.mod_lt _ (by decide)) (byteAt_range l _).1 (byteAt_range l _).2 (byteAt_low l)] at h ⊢
  have h2 := (h.two.set 1 (.int .i64 ((l.length : Int) + 1))).drew
  have e : bits ++ putB (v / 2 ^ (n - (k + 1))) (k + 1) = l ++ [bb] := by
    rw [← putB_shift v n k hlt, hbb, ← List.append_assoc, hll]
  rw [e]
  refine Wr.shut (v := sv) (t := t) (k := (l.length : Int) + 1) (xs := pack (l ++ [bb])) ?_ (by simp) rfl
  rw [pack_snoc]
  simpa [Row8, List.map_set] using h2

set_option maxHeartbeats 1000000 in
theorem put_calls (v width : Int) (h0 : 0 ≤ width) (h1 : width ≤ 64) (hv0 : 0 ≤ v) (hv1 : v < 18446744073709551616) (hw : wideB v width = false) (hb : bits.length ≤ 1000000000000) (h : St B w0 w (Wr a bits • R)) :
    Calls Try.prog 17 #[.pointer (some ⟨a, 0, none⟩), .int .u64 v, .int .i64 width] w fun e w' => e = .returned (.int .i64 0) ∧ St B w0 w' (Wr a (bits ++ putB v width.toNat) • R) := by
  have HS := Lib.hid h
  clear h
  obtain ⟨n, rfl⟩ := Int.eq_ofNat_of_zero_le h0
  rw [Int.toNat_natCast]
  go_enter Try.func17, Try.ntmps17
  go_wp2_with (go_at_call 51; refine (wide_calls _ _ _ (by omega)).mono ?_; rintro e w' ⟨rfl, rfl⟩)
  go_loopw [25] (fun i wr => ∃ k : Nat, k ≤ n ∧ i = .int .i64 k ∧ Hid (St B w0 wr (Wr a (bits ++ putB (v / 2 ^ (n - k)) k) • R))) (fun i _ => n - (intOf i).toNat)
  case atStart => exact ⟨0, Nat.zero_le _, rfl, Lib.hid (by simpa [putB] using HS.out)⟩
  case round =>
    clear HS
    obtain ⟨k, hk, rfl, HS⟩ := hrel
    by_cases hlt : k < n
    · have hl : (bits ++ putB (v / 2 ^ (n - k)) k).length = bits.length + k := by simp [putB_length]
      obtain ⟨m, hm⟩ : ∃ m, m = bits.length + k := ⟨_, rfl⟩
      have HL := Lib.hid (hl.trans hm.symm)
      have hmb : m ≤ 1000000000064 := by omega
      have HM := Lib.hid hm
      clear hl hm
      generalize hll : bits ++ putB (v / 2 ^ (n - k)) k = l at HS HL
      have HLL := Lib.hid hll
      clear hll
      obtain ⟨rv, t, h1⟩ := Wr.open_ HS.out
      rw [HL.out] at h1
      by_cases h8 : m % 8 = 0
      · have hrf : rowFor l = pack l ++ [0] := by simp [rowFor, HL.out, h8]
        have hpl : (pack l).length = m / 8 := by rw [pack_length, HL.out]; omega
        have c0 : wr.cell? ⟨a, 0, none⟩ = some rv := h1.cell 0 rfl
        have c1 : wr.cell? ⟨a, 1, none⟩ = some (.int .i64 m) := h1.cell 1 rfl
        have hb8 : ((m : Int) % 8 == 0) = true := by rw [beq_iff_eq]; omega
        have H1 := Lib.hid h1
        clear h1
        have hmm : (pack l).length + [(0 : Int)].length = m / 8 + 1 := by rw [hpl]; rfl
        have HM2 := Lib.hid (And.intro hrf (And.intro hpl hmm))
        clear hrf hpl hmm
        go_wp2_with (at_builtin; refine append8s rfl _ _ rfl rv _ (pack l) [0] (m / 8 + 1) rfl ((H1.out.two).alloc _).two rfl (St.blkReads (H1.out.alloc _) rfl rfl rfl (by decide)) HM2.out.2.2 (by omega) (by omega) ?_; intro g cap w1 hcap hcm h2; have c0' : w1.cell? ⟨a, 0, none⟩ = some rv := h2.three.cell 0 rfl; have f0' := h2.three.free 0 (.inr (Nat.le_refl _)); have H2 := Lib.hid (h2.three.set 0 (.slice (some ⟨g, 0, none⟩) (m / 8 + 1) cap)); clear h2 c0 c1)
        have h3 := H2.out.back3.two.drop.two
        clear H2 H1 c0' f0' HS
        generalize w1.setCell ⟨a, 0, none⟩ (.slice (some ⟨g, 0, none⟩) (m / 8 + 1) cap) = W at h3 ⊢
        clear w1
        obtain ⟨hrf, hpl, hmm⟩ := HM2.out
        obtain ⟨g2, cap2, e2, -, -, hcell, hfree, hset⟩ := h3.two.rowFull (by rw [← hrf, rowFor_length]; omega)
        obtain ⟨rfl, rfl⟩ : g = g2 ∧ cap = cap2 := by
          simp only [Value.slice.injEq, Option.some.injEq, Addr.mk.injEq] at e2
          exact ⟨e2.1.1, e2.2.2⟩
        clear e2
        have hne := h3.rowNe
        have c0 : W.cell? ⟨a, 0, none⟩ = some (.slice (some ⟨g, 0, none⟩) (m / 8 + 1) cap) := h3.cell 0 rfl
        have c1 : W.cell? ⟨a, 1, none⟩ = some (.int .i64 m) := h3.cell 1 rfl
        have f0 := h3.free 0 (.inr (Nat.le_refl _))
        have f1 := h3.free 1 (.inr (Nat.le_refl _))
        have hx := rowFor_at l
        rw [HL.out, hrf] at hx
        have cx := hcell (m / 8) _ (by rw [List.getElem?_map, hx]; rfl)
        have fx := hfree (m / 8) (by rw [List.length_append]; omega)
        have hbr := byteAt_range l (m / 8)
        have HX := Lib.hid (And.intro hset (And.intro h3 hrf))
        clear hset h3 hcell hfree hx hrf hpl hmm HM2
        have hb1 := bit_u64 v hv0 hv1 (n - 1 - k)
        generalize hbb : decide (v / 2 ^ (n - 1 - k) % 2 = 1) = bb at hb1
        rw [hb1]
        have hbr2 := b2i_01 bb
        have HB1 := Lib.hid hbb
        clear hb1 hbb
        go_region
        go_wp2
        refine ⟨⟨k + 1, by omega, by go_num, ?_⟩, by simp [intOf]; omega⟩
        obtain ⟨hset, h3, hrf⟩ := HX.out
        have hs := hset (m / 8) (Value.int .u8 (Go.bits .or .u8 (byteAt l (m / 8)) (b2i bb * 2 ^ (7 - m % 8) % 256))) (by rw [← hrf, rowFor_length, HL.out]; omega)
        rw [← hrf] at hs
        have hf := put_step HLL.out HL.out HB1.out hlt hs
        rw [h8] at hf
        exact hf
      · have hrf : rowFor l = pack l := by simp [rowFor, HL.out, h8]
        have hpl : (pack l).length = m / 8 + 1 := by rw [← hrf, rowFor_length, HL.out]
        obtain ⟨g, cap, rfl, hcap, hcm, hcell, hfree, hset⟩ := h1.two.rowFull (by rw [hpl]; omega)
        have hne := h1.rowNe
        have c0 : wr.cell? ⟨a, 0, none⟩ = some (.slice (some ⟨g, 0, none⟩) (pack l).length cap) := h1.cell 0 rfl
        have c1 : wr.cell? ⟨a, 1, none⟩ = some (.int .i64 m) := h1.cell 1 rfl
        have f0 := h1.free 0 (.inr (Nat.le_refl _))
        have f1 := h1.free 1 (.inr (Nat.le_refl _))
        have hx := rowFor_at l
        rw [hrf, HL.out] at hx
        have cx := hcell (m / 8) _ (by rw [List.getElem?_map, hx]; rfl)
        have fx := hfree (m / 8) (by rw [hpl]; omega)
        have hb8 : ((m : Int) % 8 == 0) = false := by rw [beq_eq_false_iff_ne]; omega
        have hbr := byteAt_range l (m / 8)
        rw [hpl] at c0
        have H1 := Lib.hid (And.intro h1 hset)
        have HX := Lib.hid (And.intro hx (And.intro hrf hpl))
        clear h1 hset hx hrf hpl hcell hfree
        go_wp2
        have hb1 := bit_u64 v hv0 hv1 (n - 1 - k)
        generalize hbb : decide (v / 2 ^ (n - 1 - k) % 2 = 1) = bb at hb1
        rw [hb1]
        have hbr2 := b2i_01 bb
        have HB1 := Lib.hid hbb
        clear hb1 hbb
        go_region
        go_wp2
        refine ⟨⟨k + 1, by omega, by go_num, ?_⟩, by simp [intOf]; omega⟩
        obtain ⟨h1, hset⟩ := H1.out
        obtain ⟨hx, hrf, hpl⟩ := HX.out
        exact put_step HLL.out HL.out HB1.out hlt (by rw [hrf]; exact hset (m / 8) _ (by rw [hpl]; omega))
    · go_wp2
      go_ret
      have : k = n := by omega
      subst this
      exact ⟨rfl, by simpa using HS.out⟩

end Go.Proofs.Ytomjgjdnlbpleaa.Stream
