/- StreamBack: the walk of the law. -/
import Derived.Test.YtomjgjdnlbpleaaRdB
import Derived.Test.YtomjgjdnlbpleaaLawB
import Derived.Test.YtomjgjdnlbpleaaBackM
namespace Go.Proofs.Ytomjgjdnlbpleaa.Stream
open Go.RowKit Go.Proofs.Ytomjgjdnlbpleaa.Sep Go.Proofs.Ytomjgjdnlbpleaa.Bits Go.Proofs.Ytomjgjdnlbpleaa.Num
variable {B : Nat} {w0 w : World} {R : HP}

/-- A step with the value of its octets' slice. -/
abbrev OpV := OpD × Value
def cells4 (o : OpV) : List Value := [.int .i64 o.1.what, .int .u64 o.1.v, .int .i64 o.1.w, o.2]
def cellsD (D : List OpV) : List Value := D.flatMap cells4
theorem infoOp : (Try.prog.info? 30).map (fun i => (i.zero, i.size, i.bytes)) = some (some (.agg #[.int .i64 0, .int .u64 0, .int .i64 0, .slice none 0 0]), 4, 48) := by kernel_rfl

theorem blkReadsN {g : Nat} {cs : Array Value} {e : TypeId} {fr : Nat × Nat} (h : St B w0 w (Blk g (.cells cs e fr) • R)) {n c size : Nat} {xs : List Value} (hs : cs.size = n * size) (hnc : n ≤ c) (hc : c ≤ maxLen) (hx : xs = cs.toList) :
    ReadsV size w (.slice (some ⟨g, 0, none⟩) n c) n xs := by
  subst hx
  refine ⟨by simpa using hs, _, _, rfl, hnc, hc, fun j u hu => ⟨_, rfl, ?_⟩⟩
  rw [add_plain]
  exact h.cell j (by simpa using hu)
theorem one4 (o : OpV) (ho : ∃ A n c, o.2 = .slice A n c) : ∀ u ∈ cells4 o, u.oneCell' = true := by
  obtain ⟨A, n, c, h⟩ := ho
  intro u hu
  simp only [cells4, h, List.mem_cons, List.not_mem_nil, or_false] at hu
  rcases hu with rfl | rfl | rfl | rfl <;> rfl
/-- append of one step to a list of steps. -/
theorem appendOp {ops : Array Oper} {rest : List Oper} {o : Oper} {a : Act} {Q : Exit → Act → World → Prop} (hgd : o.guard = none) (s x : Operand)
    (ho : o.op = .call { callee := .builtin .append, args := #[s, x], argTypes := #[22, 22] }) (v src : Value) (D : List OpV) (d : OpV)
    (hs : a.eval s = v) (h : St B w0 w (RowV 30 4 v D.length (cellsD D) • R)) (hx : a.eval x = src) (hr : ReadsV 4 w src 1 (cells4 d)) (hd : ∃ A n c, d.2 = .slice A n c) (h63 : D.length ≤ 1000)
    (hK : ∀ v' w', St B w0 w' (RowV 30 4 v' (D ++ [d]).length (cellsD (D ++ [d])) • R) → wpList Try.prog ops Q rest (a.put o.dst v') w') : wpList Try.prog ops Q (o :: rest) a w := by
  obtain ⟨i0, hi, hz0, hz1, hz2⟩ := info_parts infoOp
  refine St.wpList_append hgd s x 22 ho i0 (.agg #[.int .i64 0, .int .u64 0, .int .i64 0, .slice none 0 0]) 48 Try.underlying22 hi hz0 hz1 hz2 rfl (by decide) hs h hx hr (one4 d hd) (by simp only [maxLen]; omega) (by omega) fun v' w' h' => hK v' w' ?_
  simpa [cellsD] using h'
theorem cellsD_at (D : List OpV) (k : Nat) (d : OpV) (h : D[k]? = some d) (j : Nat) (u : Value) (hu : (cells4 d)[j]? = some u) : (cellsD D)[k * 4 + j]? = some u := by
  induction D generalizing k with
  | nil => simp at h
  | cons x D ih =>
    have hj : j < 4 := (List.getElem?_eq_some_iff.1 hu).1
    have hl : (cells4 x).length = 4 := rfl
    cases k with
    | zero =>
      simp only [List.getElem?_cons_zero, Option.some.injEq] at h
      subst h
      show (cells4 x ++ cellsD D)[0 * 4 + j]? = _
      rw [Nat.zero_mul, Nat.zero_add, List.getElem?_append_left (by omega)]
      exact hu
    | succ k =>
      show (cells4 x ++ cellsD D)[(k + 1) * 4 + j]? = _
      rw [List.getElem?_append_right (by omega), show (k + 1) * 4 + j - (cells4 x).length = k * 4 + j from by omega]
      exact ih k h

/-- A row that is not empty: where its cells lie, in every world that has the row. -/
theorem rowAt {e : TypeId} {size n : Nat} {v : Value} {xs : List Value} (h : St B w0 w (RowV e size v n xs • R)) (hn : 0 < n) :
    ∃ g off c, v = .slice (some ⟨g, off, none⟩) n c ∧ n ≤ c ∧ c ≤ maxLen ∧ ∀ (W : World) (A : HP), St B w0 W (RowV e size v n xs • A) → ∀ j u, xs[j]? = some u → W.cell? ⟨g, off + j, none⟩ = some u := by
  rcases h.rowForm with ⟨_, rfl, _⟩ | ⟨g, cap, cur, lo, hi, rfl, hf, hnc, hc, hs, hx, hb⟩
  · omega
  · refine ⟨g, 0, cap, rfl, hnc, hc, fun W A hW j u hu => ?_⟩
    obtain ⟨_, A', c', e1, _, _, hcell⟩ := hW.reads
    obtain ⟨ad, e2, h3⟩ := hcell j u hu
    simp only [Value.slice.injEq] at e1
    obtain ⟨rfl, -, -⟩ := e1
    simp only [Option.some.injEq] at e2
    subst e2
    rw [add_plain] at h3
    rw [Nat.zero_add]
    exact h3

set_option maxHeartbeats 4000000 in
set_option maxRecDepth 100000 in
theorem back_calls (vb : Value) (ops : List OpD) (w : World) (hr : ReadsOps w vb ops) (hok : ∀ o ∈ ops, OpOk o) :
    Calls Try.prog 14 #[vb] w fun e w' => e = .returned (.bool true) ∧ Below w.heap.size w w' := by
  have H := Lib.hid (St.start w)
  have HR := Lib.hid hr
  have HOK := Lib.hid hok
  obtain ⟨A, c, rfl, hc, hcm, -⟩ := hr
  have hl : ops.length ≤ 9223372036854775807 := by simp only [maxLen] at hcm; omega
  clear hok hc hcm
  by_cases hlen : ops.length > 100
  · go_enter Try.func14, Try.ntmps14
    go_wp2_with (go_at_call 15; refine (awake_calls H.out).mono ?_; rintro e w1 ⟨rfl, h2⟩; have H2 := Lib.hid h2; clear h2)
    go_ret
    exact ⟨rfl, H2.out.below⟩
  · go_enter Try.func14, Try.ntmps14
    go_wp2_with fail
    refine (awake_calls H.out).mono ?_
    rintro e w1 ⟨rfl, h2⟩
    have H2 := Lib.hid ((fresh h2 w1.heap.size rfl).nil 30 4)
    clear h2 H
    go_wp2_with fail
    go_loopw [5, 6] (fun vd i wr => ∃ (k : Nat) (D : List OpV), k ≤ ops.length ∧ D.length ≤ k ∧ i = .int .i64 k ∧ (allB (D.map (·.1))).length ≤ k * 10000 ∧
      (∀ d ∈ D, OpOk d.1 ∧ goodO d.1 ∧ d.1.b.length ≤ 100 ∧ Reads8 w d.2 d.1.b) ∧ Hid (St w.heap.size w wr (RowV 30 4 vd D.length (cellsD D) • Wr w1.heap.size (allB (D.map (·.1))) • emp))) (fun _ i _ => ops.length - (intOf i).toNat)
    case atStart => exact ⟨0, [], Nat.zero_le _, Nat.zero_le _, rfl, Nat.zero_le _, (fun d hd => by cases hd), H2⟩
    case round =>
      clear H2
      obtain ⟨k, D, hk, hdk, rfl, hbl, hD, HS⟩ := hrel
      have HD := Lib.hid hD
      have HB := Lib.hid hbl
      clear hD hbl
      by_cases hlt : k < ops.length
      · obtain ⟨o, ho⟩ : ∃ o, ops[k]? = some o := ⟨_, List.getElem?_eq_getElem hlt⟩
        obtain ⟨_, _, e, hc, hcm, hat⟩ := id HR.out
        obtain ⟨g, off, e2, d0, d1, d2, vo, d3, hb3⟩ := hat k o ho
        simp only [Value.slice.injEq] at e
        obtain ⟨rfl, -, rfl⟩ := e
        subst e2
        have hO := HOK.out _ (List.mem_of_getElem? ho)
        have HF : Hid (∀ (w5 : World) (v' : Value), goodO o → o.b.length ≤ 100 → St w.heap.size w w5 (RowV 30 4 v' (D ++ [(o, vo)]).length (cellsD (D ++ [(o, vo)])) • Wr w1.heap.size (bOp (allB (D.map (·.1))) o) • emp) →
            ∃ (k1 : Nat) (D1 : List OpV), k1 ≤ ops.length ∧ D1.length ≤ k1 ∧ Value.int IntKind.i64 ((k : Int) + 1) = .int .i64 (k1 : Nat) ∧ (allB (D1.map (·.1))).length ≤ k1 * 10000 ∧
              (∀ d ∈ D1, OpOk d.1 ∧ goodO d.1 ∧ d.1.b.length ≤ 100 ∧ Reads8 w d.2 d.1.b) ∧ Hid (St w.heap.size w w5 (RowV 30 4 v' D1.length (cellsD D1) • Wr w1.heap.size (allB (D1.map (·.1))) • emp))) := by
          refine Lib.hid fun w5 v' hg hb hS => ?_
          have e3 : allB ((D ++ [(o, vo)]).map (·.1)) = bOp (allB (D.map (·.1))) o := by rw [List.map_append, List.map_singleton, allB_snoc]
          have hbl := bOp_length (allB (D.map (·.1))) o hb
          refine ⟨k + 1, D ++ [(o, vo)], by omega, by simp; omega, by go_num, by rw [e3]; have := HB.out; omega, fun d hd => ?_, Lib.hid (by rw [e3]; exact hS)⟩
          rcases List.mem_append.1 hd with hd | hd
          · exact HD.out d hd
          · obtain rfl := List.mem_singleton.1 hd
            exact ⟨hO, hg, hb, hb3⟩
        obtain ⟨⟨hw0, hw1⟩, ⟨hv0, hv1⟩, ⟨hwd0, hwd1⟩, hob⟩ := hO
        have HOB := Lib.hid hob
        obtain ⟨_, A3, cap3, rfl, hc3, hcm3, _⟩ := id hb3
        have hobl : o.b.length ≤ 9223372036854775807 := by simp only [maxLen] at hcm3; omega
        have HC : Hid (∀ (W : World) (A : HP), St w.heap.size w W A → W.cell? ⟨g, off + k * 4, none⟩ = some (.int .i64 o.what) ∧ W.cell? ⟨g, off + k * 4 + 1, none⟩ = some (.int .u64 o.v) ∧ W.cell? ⟨g, off + k * 4 + 2, none⟩ = some (.int .i64 o.w) ∧ W.cell? ⟨g, off + k * 4 + 3, none⟩ = some (.slice A3 o.b.length cap3) ∧ Reads8 W (.slice A3 o.b.length cap3) o.b) :=
          Lib.hid fun W A h => ⟨cell_of_below h.below d0, cell_of_below h.below d1, cell_of_below h.below d2, cell_of_below h.below d3, hb3.below h.below⟩
        obtain ⟨c0, c1, c2, c3, hb3'⟩ := HC.out _ _ HS.out
        clear hat hb3 hb3' ho hc hcm d0 d1 d2 d3 hob
        by_cases hb100 : o.b.length > 100
        · clear c0 c1 c2
          go_wp2_with fail
          go_ret
          exact ⟨rfl, HS.out.below⟩
        · by_cases h0 : o.what = 0
          · have hd0 : (o.what == 0) = true := by simpa using h0
            go_wp2_with fail
            go_region_held3 (fun W => W.cell? ⟨g, off + k * 4 + 1, none⟩ = some (.int .u64 o.v) ∧ W.cell? ⟨g, off + k * 4 + 2, none⟩ = some (.int .i64 o.w)) (first | go_keep | exact ⟨(HC.out _ _ h4).2.1, (HC.out _ _ h4).2.2.1⟩)
              ((go_at_call 17; refine (put_any o.v o.w hv0 hv1 (by have := HB.out; omega) HS.out.two.drew).mono ?_; rintro e w3 ⟨rfl, h4⟩))
            have H4 := Lib.hid h4
            clear h4 c0 c1 c2 c3
            by_cases hpe : putErr o.v o.w = 0
            · have hpe' : (putErr o.v o.w == 0) = true := by simpa using hpe
              have HA : Hid (putL (allB (D.map (·.1))) o.v o.w = bOp (allB (D.map (·.1))) o) := Lib.hid (by unfold bOp; rw [if_pos h0])
              have HG := Lib.hid (show goodO o from fun _ => hpe)
              obtain ⟨c0, c1, c2, c3, -⟩ := HC.out _ _ H4.out
              clear hpe
              go_wp2_with (at_builtin; refine appendOp rfl _ _ rfl u5 _ D (o, .slice A3 o.b.length cap3) rfl (H4.out.two.alloc _).two rfl (blkReadsN (H4.out.alloc _) rfl (by decide) (by decide) (by simp [cells4, h0])) ⟨_, _, _, rfl⟩ (by omega) ?_; intro v' w5 h5; rw [HA.out] at h5; have H5 := Lib.hid h5.two.drop; clear h5 H4 c0 c1 c2 c3)
              exact ⟨HF.out _ _ HG.out (by omega) H5.out, by simp [intOf]; omega⟩
            · have hpe' : (putErr o.v o.w == 0) = false := by simpa using hpe
              have HA : Hid (putL (allB (D.map (·.1))) o.v o.w = allB (D.map (·.1))) := Lib.hid (by unfold putL; rw [if_neg hpe])
              clear hpe
              go_wp2_with fail
              exact ⟨⟨k + 1, D, by omega, by omega, by go_num, by have := HB.out; omega, HD.out, Lib.hid (by have h := H4.out.two; rw [HA.out] at h; exact h)⟩, by simp [intOf]; omega⟩
          · have hd0 : (o.what == 0) = false := by simpa using h0
            have HG := Lib.hid (show goodO o from fun e => absurd e h0)
            by_cases h1 : o.what = 1
            · have hd1 : (o.what == 1) = true := by simpa using h1
              have HA : Hid (alignB (allB (D.map (·.1))) = bOp (allB (D.map (·.1))) o) := Lib.hid (by unfold bOp; rw [if_neg h0, if_pos h1])
              go_wp2_with fail
              refine (align_calls HS.out.two (by have := HB.out; omega)).mono ?_
              rintro e w3 ⟨rfl, h3⟩
              have H4 := Lib.hid h3.two
              obtain ⟨c0, c1, c2, c3, -⟩ := HC.out _ _ H4.out
              clear h3
              go_wp2_with (at_builtin; refine appendOp rfl _ _ rfl u5 _ D (o, .slice A3 o.b.length cap3) rfl (H4.out.alloc _).two rfl (blkReadsN (H4.out.alloc _) rfl (by decide) (by decide) (by simp [cells4, h1])) ⟨_, _, _, rfl⟩ (by omega) ?_; intro v' w5 h5; rw [HA.out] at h5; have H5 := Lib.hid h5.two.drop; clear h5 H4 c0 c1 c2 c3)
              exact ⟨HF.out _ _ HG.out (by omega) H5.out, by simp [intOf]; omega⟩
            · have hd1 : (o.what == 1) = false := by simpa using h1
              have HA : Hid (allB (D.map (·.1)) ++ unpack o.b = bOp (allB (D.map (·.1))) o) := Lib.hid (by unfold bOp; rw [if_neg h0, if_neg h1])
              clear h0 h1
              go_wp2_with fail
              refine (octets_calls _ o.b HS.out.two (fun W h => (HC.out W _ h).2.2.2.2) HOB.out (by have := HB.out; omega) (by omega)).mono ?_
              rintro e w3 ⟨rfl, h3⟩
              have H4 := Lib.hid h3.two
              obtain ⟨c0, c1, c2, c3, -⟩ := HC.out _ _ H4.out
              clear h3
              go_wp2_with (at_builtin; refine appendOp rfl _ _ rfl u5 _ D (o, .slice A3 o.b.length cap3) rfl (H4.out.alloc _).two rfl (blkReadsN (H4.out.alloc _) rfl (by decide) (by decide) rfl) ⟨_, _, _, rfl⟩ (by omega) ?_; intro v' w5 h5; rw [HA.out] at h5; have H5 := Lib.hid h5.two.drop; clear h5 H4 c0 c1 c2 c3)
              exact ⟨HF.out _ _ HG.out (by omega) H5.out, by simp [intOf]; omega⟩
      · obtain rfl : k = ops.length := by omega
        obtain ⟨_, Ad, cd, rfl, hcd, hcdm, -⟩ := id HS.out.reads
        have hD100 : D.length ≤ 100 := by omega
        have hbz : (allB (D.map (·.1))).length ≤ 1000000 := by have := HB.out; omega
        have hxl : (bytesOf (allB (D.map (·.1)))).length ≤ 1000000 := by
          unfold bytesOf
          split
          · simp
          · rw [pack_length]; omega
        have hend := back_end (allB (D.map (·.1)))
        have hpre := bytes_pre (allB (D.map (·.1)))
        have HX := Lib.hid (bytesOf_range (allB (D.map (·.1))))
        have hpl : (allB (D.map (·.1))).length ≤ 8 * (bytesOf (allB (D.map (·.1)))).length := by
          obtain ⟨r, hr⟩ := hpre
          have := congrArg List.length hr
          rw [unpack_length, List.length_append] at this
          omega
        have HPR := Lib.hid (And.intro hpre hend)
        clear hpre hend HB hk hdk hlt
        go_wp2_with fail
        refine (bytes_calls HS.out.two (by omega)).mono ?_
        rintro e w2 ⟨v2, rfl, h3⟩
        have H3 := Lib.hid h3
        clear h3 HS
        go_wp2_with fail
        refine (new_calls v2 H3.out (fun W h => h.reads) (by omega)).mono ?_
        rintro e w3 ⟨ar, rfl, h4⟩
        have H4 := Lib.hid (show St w.heap.size w w3 (Rd ar (bytesOf (allB (D.map (·.1)))) (allB ((D.map (·.1)).take 0)).length • RowV 30 4 (.slice Ad D.length cd) D.length (cellsD D) • Wr w1.heap.size (allB (D.map (·.1))) • emp) from h4.two.drop.three.two)
        clear h4 H3
        generalize hxs : bytesOf (allB (D.map (·.1))) = xs at *
        clear hxs
        generalize hbits : allB (D.map (·.1)) = bits at *
        have HBI := Lib.hid hbits
        clear hbits
        go_wp2_with fail
        go_loopw [8] (fun i wr => ∃ k : Nat, k ≤ D.length ∧ i = .int .i64 k ∧ Hid (St w.heap.size w wr (Rd ar xs (allB ((D.map (·.1)).take k)).length • RowV 30 4 (.slice Ad D.length cd) D.length (cellsD D) • Wr w1.heap.size bits • emp))) (fun i _ => D.length - (intOf i).toNat)
        case atStart => exact ⟨0, Nat.zero_le _, rfl, H4⟩
        case round =>
          clear H4
          obtain ⟨j, hj, rfl, HS⟩ := hrel
          by_cases hlt : j < D.length
          · obtain ⟨⟨o, vo⟩, hd⟩ : ∃ d, D[j]? = some d := ⟨_, List.getElem?_eq_getElem hlt⟩
            obtain ⟨hO, hg, hb100, hb3⟩ := HD.out _ (List.mem_of_getElem? hd)
            dsimp only at hO hg hb100 hb3
            obtain ⟨⟨hw0, hw1⟩, ⟨hv0, hv1⟩, ⟨hwd0, hwd1⟩, hob⟩ := hO
            obtain ⟨g, off, _, e, _, _, hcl⟩ := rowAt HS.out.two (by omega)
            simp only [Value.slice.injEq] at e
            obtain ⟨rfl, -, rfl⟩ := e
            obtain ⟨_, A3, cap3, rfl, hc3, hcm3, _⟩ := id hb3
            have HC : Hid (∀ (W : World) (A : HP), St w.heap.size w W (RowV 30 4 (.slice (some ⟨g, off, none⟩) D.length cd) D.length (cellsD D) • A) → W.cell? ⟨g, off + j * 4, none⟩ = some (.int .i64 o.what) ∧ W.cell? ⟨g, off + j * 4 + 1, none⟩ = some (.int .u64 o.v) ∧ W.cell? ⟨g, off + j * 4 + 2, none⟩ = some (.int .i64 o.w) ∧ W.cell? ⟨g, off + j * 4 + 3, none⟩ = some (.slice A3 o.b.length cap3) ∧ Reads8 W (.slice A3 o.b.length cap3) o.b) := by
              refine Lib.hid fun W A h => ⟨?_, ?_, ?_, ?_, hb3.below h.below⟩
              · exact hcl W A h (j * 4) _ (cellsD_at D j _ hd 0 _ rfl)
              · exact hcl W A h (j * 4 + 1) _ (cellsD_at D j _ hd 1 _ rfl)
              · exact hcl W A h (j * 4 + 2) _ (cellsD_at D j _ hd 2 _ rfl)
              · exact hcl W A h (j * 4 + 3) _ (cellsD_at D j _ hd 3 _ rfl)
            obtain ⟨c0, c1, c2, c3, -⟩ := HC.out _ _ HS.out.two
            have hdm : (D.map (·.1))[j]? = some o := by rw [List.getElem?_map, hd]; rfl
            obtain ⟨r, hr⟩ := all_pre (D.map (·.1)) (unpack xs) (by rw [HBI.out]; exact HPR.out.1) j o hdm
            have hat := allB_at (D.map (·.1)) j o hdm
            have hple : (allB ((D.map (·.1)).take j)).length ≤ 8 * xs.length := by
              obtain ⟨t, ht⟩ := allB_take (D.map (·.1)) j
              have := congrArg List.length ht
              rw [HBI.out, List.length_append] at this
              omega
            have HR2 := Lib.hid (And.intro hr hat)
            have HOB := Lib.hid hob
            have HE : Hid (∀ W, St w.heap.size w W (Rd ar xs (bOp (allB ((D.map (·.1)).take j)) o).length • RowV 30 4 (.slice (some ⟨g, off, none⟩) D.length cd) D.length (cellsD D) • Wr w1.heap.size bits • emp) →
              (∃ k1 : Nat, k1 ≤ D.length ∧ Value.int IntKind.i64 ((j : Int) + 1) = .int .i64 (k1 : Nat) ∧ Hid (St w.heap.size w W (Rd ar xs (allB ((D.map (·.1)).take k1)).length • RowV 30 4 (.slice (some ⟨g, off, none⟩) D.length cd) D.length (cellsD D) • Wr w1.heap.size bits • emp)))) :=
              Lib.hid fun W h => ⟨j + 1, by omega, by go_num, Lib.hid (by rw [HR2.out.2]; exact h)⟩
            clear hcl hb3 hd hdm hr hat hob hw0 hw1 hwd0 hwd1 hc3 hcm3
            generalize allB ((D.map (·.1)).take j) = L at HS HR2 HE hple ⊢
            by_cases h0 : o.what = 0
            · have hd0 : (o.what == 0) = true := by simpa using h0
              have hbo : bOp L o = putL L o.v o.w := by unfold bOp; rw [if_pos h0]
              have hb2 := back_get L r o.v o.w (hg h0) ⟨hv0, hv1⟩
              rw [← hbo, ← HR2.out.1] at hb2
              have HB2 := Lib.hid hb2
              clear hbo hb2 hg
              go_wp2_with fail
              refine (get_any o.w HS.out hple (by omega) HX.out).mono ?_
              rintro e w4 ⟨rfl, h4⟩
              rw [HB2.out.1, HB2.out.2.1]
              rw [HB2.out.2.2] at h4
              have H4 := Lib.hid h4
              clear h4 c0 c1 c2 c3
              obtain ⟨c0, c1, c2, c3, -⟩ := HC.out _ _ H4.out.two
              go_wp2_with fail
              exact ⟨HE.out _ H4.out, by simp [intOf]; omega⟩
            · have hd0 : (o.what == 0) = false := by simpa using h0
              by_cases h1 : o.what = 1
              · have hd1 : (o.what == 1) = true := by simpa using h1
                have hbo : bOp L o = alignB L := by unfold bOp; rw [if_neg h0, if_pos h1]
                have hb2 := back_align L r
                rw [← hbo, ← HR2.out.1] at hb2
                have HB2 := Lib.hid hb2
                clear hbo hb2 hg
                go_wp2_with fail
                refine (rdalign_calls HS.out hple (by omega) HX.out).mono ?_
                rintro e w4 ⟨rfl, h4⟩
                rw [HB2.out.1]
                rw [HB2.out.2] at h4
                have H4 := Lib.hid h4
                clear h4 c0 c1 c2 c3
                go_wp2_with fail
                exact ⟨HE.out _ H4.out, by simp [intOf]; omega⟩
              · have hd1 : (o.what == 1) = false := by simpa using h1
                have hbo : bOp L o = L ++ unpack o.b := by unfold bOp; rw [if_neg h0, if_neg h1]
                have hb2 := back_octs L r o.b HOB.out
                rw [← hbo, ← HR2.out.1] at hb2
                have HB2 := Lib.hid hb2
                clear hbo hb2 hg h0 h1
                go_wp2_with fail
                refine (rdocts_any (o.b.length : Int) HS.out hple (by omega) HX.out).mono ?_
                rintro e w4 ⟨v4, rfl, h4⟩
                rw [HB2.out.1]
                rw [HB2.out.2.1, HB2.out.2.2] at h4
                have H4 := Lib.hid h4
                clear h4 c0 c1 c2 c3
                obtain ⟨c0, c1, c2, c3, hrd⟩ := HC.out _ _ H4.out.three
                have HRD := Lib.hid hrd
                clear hrd
                go_wp2_with fail
                refine (same_eq v4 _ o.b _ H4.out.reads HRD.out).mono ?_
                rintro e w' ⟨rfl, rfl⟩
                go_wp2_with fail
                exact ⟨HE.out _ H4.out.drop, by simp [intOf]; omega⟩
          · obtain rfl : j = D.length := by omega
            have e1 : allB ((D.map (·.1)).take D.length) = bits := by
              rw [List.take_of_length_le (by simp), HBI.out]
            have H5 := Lib.hid (show St w.heap.size w wr (Rd ar xs bits.length • RowV 30 4 (.slice Ad D.length cd) D.length (cellsD D) • Wr w1.heap.size bits • emp) from by have h := HS.out; rw [e1] at h; exact h)
            clear HS e1
            go_wp2_with fail
            refine (end_calls H5.out hpl (by omega) HX.out).mono ?_
            rintro e w4 ⟨rfl, h4⟩
            rw [HPR.out.2]
            have H4 := Lib.hid h4
            clear h4 H5
            go_wp2_with fail
            refine (pos_calls H4.out).mono ?_
            rintro e w' ⟨rfl, rfl⟩
            go_wp2_with fail
            refine (writer_len H4.out.three).mono ?_
            rintro e w' ⟨rfl, rfl⟩
            go_wp2
            go_ret
            exact ⟨rfl, H4.out.below⟩
end Go.Proofs.Ytomjgjdnlbpleaa.Stream
