/- StreamWrites: the walk of the law. -/
import Derived.Test.YtomjgjdnlbpleaaOps
import Derived.Deep.RegionHeld3
namespace Go.Proofs.Ytomjgjdnlbpleaa.Stream
open Go.RowKit Go.Proofs.Ytomjgjdnlbpleaa.Sep Go.Proofs.Ytomjgjdnlbpleaa.Bits Go.Proofs.Ytomjgjdnlbpleaa.Num
variable {B : Nat} {w0 w : World} {R : HP} {a : Nat} {bits : List Bool}

theorem putL_le (l : List Bool) (v width : Int) (N : Nat) (h : l.length ≤ N) : (putL l v width).length ≤ N + 10000 := by
  have := putL_length l v width
  omega

set_option maxHeartbeats 1000000 in
set_option maxRecDepth 100000 in
theorem writes_calls (vb : Value) (ops : List OpD) (w : World) (hr : ReadsOps w vb ops) (hok : ∀ o ∈ ops, OpOk o) :
    Calls Try.prog 3 #[vb] w fun e w' => e = .returned (.bool true) ∧ Below w.heap.size w w' := by
  have H := Lib.hid (St.start w)
  have HR := Lib.hid hr
  have HOK := Lib.hid hok
  obtain ⟨A, c, rfl, hc, hcm, -⟩ := hr
  have hl : ops.length ≤ 9223372036854775807 := by simp only [maxLen] at hcm; omega
  clear hok hc hcm
  by_cases hlen : ops.length > 100
  · go_enter Try.func3, Try.ntmps3
    go_wp2_with (go_at_call 15; refine (awake_calls H.out).mono ?_; rintro e w1 ⟨rfl, h2⟩; have H2 := Lib.hid h2; clear h2)
    go_ret
    exact ⟨rfl, H2.out.below⟩
  · go_enter Try.func3, Try.ntmps3
    go_wp2_with fail
    refine (awake_calls H.out).mono ?_
    rintro e w1 ⟨rfl, h2⟩
    have H2 := Lib.hid (fresh h2 w1.heap.size rfl)
    clear h2 H
    go_wp2_with fail
    go_loopw [5, 6] (fun vs i wr => ∃ (k : Nat) (bits : List Bool), k ≤ ops.length ∧ vs = .string (strOf bits) ∧ i = .int .i64 k ∧ bits.length ≤ k * 10000 ∧ Hid (St w.heap.size w wr (Wr w1.heap.size bits • emp))) (fun _ i _ => ops.length - (intOf i).toNat)
    case atStart => exact ⟨0, [], Nat.zero_le _, rfl, rfl, Nat.zero_le _, H2⟩
    case round =>
      clear H2
      obtain ⟨k, bits, hk, rfl, rfl, hbl, HS⟩ := hrel
      by_cases hlt : k < ops.length
      · obtain ⟨o, ho⟩ : ∃ o, ops[k]? = some o := ⟨_, List.getElem?_eq_getElem hlt⟩
        obtain ⟨_, _, e, hc, hcm, hat⟩ := id HR.out
        obtain ⟨g, off, e2, d0, d1, d2, vo, d3, hb3⟩ := hat k o ho
        simp only [Value.slice.injEq] at e
        obtain ⟨rfl, -, rfl⟩ := e
        subst e2
        obtain ⟨what, v, wd, ob⟩ := o
        obtain ⟨⟨hw0, hw1⟩, ⟨hv0, hv1⟩, ⟨hwd0, hwd1⟩, hob⟩ := HOK.out _ (List.mem_of_getElem? ho)
        dsimp only at d0 d1 d2 d3 hb3 hw0 hw1 hv0 hv1 hwd0 hwd1 hob
        have HC : Hid (∀ (W : World) (A : HP), St w.heap.size w W A → W.cell? ⟨g, off + k * 4, none⟩ = some (.int .i64 what) ∧ W.cell? ⟨g, off + k * 4 + 1, none⟩ = some (.int .u64 v) ∧ W.cell? ⟨g, off + k * 4 + 2, none⟩ = some (.int .i64 wd) ∧ W.cell? ⟨g, off + k * 4 + 3, none⟩ = some vo ∧ Reads8 W vo ob) :=
          Lib.hid fun W A h => ⟨cell_of_below h.below d0, cell_of_below h.below d1, cell_of_below h.below d2, cell_of_below h.below d3, hb3.below h.below⟩
        obtain ⟨c0, c1, c2, c3, hb3'⟩ := HC.out _ _ HS.out
        obtain ⟨_, A3, cap3, rfl, hc3, hcm3, _⟩ := id hb3
        have HOB := Lib.hid hob
        clear hat hb3 hb3' hob ho hc hcm d0 d1 d2 d3
        have hobl : ob.length ≤ 9223372036854775807 := by simp only [maxLen] at hcm3; omega
        by_cases hb100 : ob.length > 100
        · clear c0 c1 c2
          go_wp2_with fail
          go_ret
          exact ⟨rfl, HS.out.below⟩
        · by_cases h0 : what = 0
          · subst h0
            go_wp2_with fail
            go_region_held3 (fun W => W.cell? ⟨g, off + k * 4 + 1, none⟩ = some (.int .u64 v) ∧ W.cell? ⟨g, off + k * 4 + 2, none⟩ = some (.int .i64 wd)) (first | go_keep | exact ⟨(HC.out _ _ h3).2.1, (HC.out _ _ h3).2.2.1⟩)
              ((go_at_call 16; refine (rput_any bits v wd hv0 hv1 (by omega) HS.out.drew).mono ?_; rintro e w2 ⟨rfl, h3⟩))
            have H3 := Lib.hid h3
            clear h3 c1 c2 HS
            obtain ⟨-, c1, c2, -, -⟩ := HC.out _ _ H3.out
            go_wp2_with fail
            go_region_held3 (fun W => W.cell? ⟨g, off + k * 4 + 1, none⟩ = some (.int .u64 v) ∧ W.cell? ⟨g, off + k * 4 + 2, none⟩ = some (.int .i64 wd)) (first | go_keep | exact ⟨(HC.out _ _ h4).2.1, (HC.out _ _ h4).2.2.1⟩)
              ((go_at_call 17; refine (put_any v wd hv0 hv1 (by omega) H3.out.drew).mono ?_; rintro e w3 ⟨rfl, h4⟩))
            have H4 := Lib.hid h4
            clear h4 H3 c1 c2
            have hpl := putL_le bits v wd _ hbl
            have hsz := strOf_size (putL bits v wd)
            have HA := Lib.hid (And.intro hpl hsz)
            clear hpl hsz
            generalize putL bits v wd = bits2 at HA H4 ⊢
            go_wp2_with fail
            refine (writer_len H4.out).mono ?_
            rintro e w' ⟨rfl, rfl⟩
            rw [← HA.out.2]
            go_wp2_with fail
            exact ⟨⟨k + 1, bits2, by omega, rfl, by go_num, by have := HA.out.1; omega, H4⟩, by simp [intOf]; omega⟩
          · have hd0 : (what == 0) = false := by simpa using h0
            clear h0
            by_cases h1 : what = 1
            · subst h1
              go_wp2_with fail
              refine (ralign_calls bits (by omega) HS.out).mono ?_
              rintro e w2 ⟨rfl, h3⟩
              have H3 := Lib.hid h3
              clear h3 HS
              go_wp2_with fail
              refine (align_calls H3.out (by omega)).mono ?_
              rintro e w3 ⟨rfl, h3⟩
              have H4 := Lib.hid h3
              clear h3 H3
              have hal := alignB_length bits
              have hsz := strOf_size (alignB bits)
              have HA := Lib.hid (And.intro hal hsz)
              clear hal hsz
              go_wp2_with fail
              refine (writer_len H4.out).mono ?_
              rintro e w' ⟨rfl, rfl⟩
              rw [← HA.out.2]
              go_wp2_with fail
              exact ⟨⟨k + 1, alignB bits, by omega, rfl, by go_num, by have := HA.out.1; omega, H4⟩, by simp [intOf]; omega⟩
            · have hd1 : (what == 1) = false := by simpa using h1
              clear h1
              go_wp2_with fail
              refine (rocts_calls bits _ ob (by omega) (by omega) HOB.out HS.out (fun W h => (HC.out W _ h).2.2.2.2)).mono ?_
              rintro e w2 ⟨rfl, h3⟩
              have c3' := (HC.out _ _ h3).2.2.2.1
              have H3 := Lib.hid h3
              clear h3 HS
              go_wp2_with fail
              refine (octets_calls _ ob H3.out (fun W h => (HC.out W _ h).2.2.2.2) HOB.out (by omega) (by omega)).mono ?_
              rintro e w3 ⟨rfl, h3⟩
              have H4 := Lib.hid h3
              clear h3 H3 c3'
              have hal : (bits ++ unpack ob).length = bits.length + 8 * ob.length := by rw [List.length_append, unpack_length]
              have hsz := strOf_size (bits ++ unpack ob)
              have HA := Lib.hid (And.intro hal hsz)
              clear hal hsz
              generalize bits ++ unpack ob = bits2 at HA H4
              go_wp2_with fail
              refine (writer_len H4.out).mono ?_
              rintro e w' ⟨rfl, rfl⟩
              rw [← HA.out.2]
              go_wp2_with fail
              exact ⟨⟨k + 1, bits2, by omega, rfl, by go_num, by have := HA.out.1; omega, H4⟩, by simp [intOf]; omega⟩
      · have hbz : bits.length ≤ 1000000 := by omega
        go_wp2_with fail
        refine (bytes_calls HS.out (by omega)).mono ?_
        rintro e w2 ⟨v2, rfl, h3⟩
        have H3 := Lib.hid h3
        clear h3 HS
        go_wp2_with fail
        refine (rbytes_calls bits (by omega) H3.out).mono ?_
        rintro e w3 ⟨v3, rfl, h3⟩
        have H4 := Lib.hid h3
        clear h3 H3
        go_wp2_with fail
        refine (same_eq v2 v3 _ _ H4.out.two.reads H4.out.reads).mono ?_
        rintro e w' ⟨rfl, rfl⟩
        go_wp2_with fail
        go_ret
        exact ⟨rfl, H4.out.below⟩
end Go.Proofs.Ytomjgjdnlbpleaa.Stream
