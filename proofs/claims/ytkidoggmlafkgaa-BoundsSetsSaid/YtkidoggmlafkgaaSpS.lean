/- slices.SortFunc at ranges, by Lo: the shelf's contract in the words of separation. -/
import Derived.Test.YtkidoggmlafkgaaSpC
import Derived.Test.YtkidoggmlafkgaaShelf
namespace Go.Proofs.Ytkidoggmlafkgaa.Span
open Go.RowKit Go.Proofs.Ytkidoggmlafkgaa.Sep Go.Sort Go.Lib
variable {B : Nat} {w0 w : World} {R : HP}

def cmpLo (x y : Rg) : Int := Lib.compareInt x.1 y.1
theorem ltLo (x y : Rg) : ltOf cmpLo x y = decide (x.1 < y.1) := by
  unfold ltOf cmpLo Lib.compareInt
  by_cases h1 : x.1 < y.1
  · simp [h1]
  · by_cases h2 : y.1 < x.1 <;> simp [h1, h2]
theorem swoLo : SWO (ltOf cmpLo) where
  irrefl x := by rw [ltLo]; simp
  trans x y z h1 h2 := by rw [ltLo] at *; simp at *; omega
  ntrans x y z h1 h2 := by rw [ltLo] at *; simp at *; omega
theorem cmp_closure (x y : Rg) (W : World) : Calls Try.prog 40 #[.agg #[.int .i64 x.1, .int .i64 x.2], .agg #[.int .i64 y.1, .int .i64 y.2]] W fun e w' => e = .returned (.int .i64 (cmpLo x y)) ∧ ∃ q os', w' = grow (W.drewN q) os' := by
  have hcon := fun W' => Try.cmp_Compare_int x.1 y.1 W'
  unfold cmpLo
  generalize Lib.compareInt x.1 y.1 = r at hcon ⊢
  go_enter Try.func40, Try.ntmps40
  go_wp2_with (go_at_call 41; refine (hcon _).mono ?_; rintro e w' ⟨rfl, rfl⟩)
  go_ret
  exact ⟨rfl, 0, _, by rw [alloc_eq_grow, alloc_eq_grow, grow_grow]; rfl⟩
theorem cmp_lays (blk off size : Nat) (w : World) : CmpLays Try.prog 40 #[] cell2 2 cmpLo blk off size w :=
  fun _ _ _ _ x y => cmp_closure x y _

theorem flat_cells (d : Array Rg) : (flatK cell2 2 d).toList = cells2 d.toList := by
  apply List.ext_getElem?
  intro t
  by_cases ht : t < d.size * 2
  · have h1 : (flatK cell2 2 d).toList[t]? = some (flatK cell2 2 d)[t]! := by
      rw [Array.getElem?_toList, Array.getElem?_eq_getElem (by rw [size_flatK]; exact ht), getElem!_pos _ t (by rw [size_flatK]; exact ht)]
    have hk : t / 2 < d.size := by omega
    rw [h1, get_flatK _ _ _ _ ht]
    have e1 : d[t / 2]! = d[t / 2] := getElem!_pos d _ hk
    have h2 : d.toList[t / 2]? = some d[t / 2] := by rw [Array.getElem?_toList, Array.getElem?_eq_getElem hk]
    rw [e1]
    rcases Nat.mod_two_eq_zero_or_one t with hm | hm
    · have e := cells2_at d.toList (t / 2) _ h2 0 _ rfl
      rw [show t / 2 * 2 + 0 = t from by omega] at e
      rw [e, hm]; rfl
    · have e := cells2_at d.toList (t / 2) _ h2 1 _ rfl
      rw [show t / 2 * 2 + 1 = t from by omega] at e
      rw [e, hm]; rfl
  · rw [List.getElem?_eq_none (by simp; omega), List.getElem?_eq_none (by rw [cells2_length]; simpa using ht)]
theorem put_take (F cur : Array Value) (h : F.size ≤ cur.size) : (putCells id 0 F cur).toList.take F.size = F.toList := by
  apply List.ext_getElem?
  intro t
  rw [List.getElem?_take]
  by_cases ht : t < F.size
  · rw [if_pos ht, Array.getElem?_toList, Array.getElem?_toList]
    unfold putCells
    rw [Array.getElem?_mapIdx, Array.getElem?_eq_getElem (show t < cur.size by omega), Array.getElem?_eq_getElem ht]
    simp [ht]
  · rw [if_neg ht, List.getElem?_eq_none (by simpa using ht)]
theorem St.sorted {g : Nat} {cur : Array Value} {T : TypeId} {fr : Nat × Nat} (h : St B w0 w (Blk g (.cells cur T fr) • R)) (n : Nat) (d : Array Rg) (os : Array Obj) :
    St B w0 (sortWorldK cell2 2 w g 0 n d os) (Blk g (.cells (putCells id 0 (flatK cell2 2 d) cur) T fr) • R) := by
  have hg := h.block_lt
  refine h.step (by simp [sortWorldK, grow, putRowK, putRow, mapBlock]) rfl rfl rfl fun F hF ⟨hf, hb⟩ => ⟨fun b hbl hn => ?_, F, fun b hb => .inl hb, hf, ?_⟩
  · have hne : g ≠ b := fun e => hn (e ▸ hf)
    simp only [sortWorldK, grow, putRowK, putRow, mapBlock]
    rw [Array.getElem?_append_left (by simpa using hbl), Array.getElem?_modify, if_neg hne]
    rfl
  · simp only [sortWorldK, grow, putRowK, putRow, mapBlock]
    rw [Array.getElem?_append_left (by simpa using hg), Array.getElem?_modify, if_pos rfl]
    show Option.map _ w.heap[g]? = _
    rw [hb]
    rfl

set_option maxHeartbeats 800000 in
theorem sort_nil (w : World) (h : St B w0 w R) : Calls Try.prog 39 #[.slice none 0 0, .func (.func 40) #[] #[]] w fun e w' => e = .returned (.tuple #[]) ∧ St B w0 w' R := by
  have H := Lib.hid h
  clear h
  have hins : ∀ W, St B w0 W R → Calls Try.prog 60 #[.slice none 0 0, .int .i64 0, .int .i64 0, .func (.func 40) #[] #[]] W fun e w' => e = .returned (.tuple #[]) ∧ St B w0 w' R := by
    intro W hW
    have HW := Lib.hid hW
    clear hW
    go_enter Try.func60, Try.ntmps60
    go_wp2
    go_loop [8] (fun i => i = .int .i64 1) (fun _ => 0)
    case atStart => rfl
    case round =>
      obtain rfl := hrel
      go_wp2
      go_end0
      exact ⟨rfl, HW.out⟩
  have HI := Lib.hid hins
  clear hins
  have hpdq : ∀ W, St B w0 W R → Calls Try.prog 53 #[.slice none 0 0, .int .i64 0, .int .i64 0, .int .i64 0, .func (.func 40) #[] #[]] W fun e w' => e = .returned (.tuple #[]) ∧ St B w0 w' R := by
    intro W hW
    have HW := Lib.hid hW
    clear hW
    go_enter Try.func53, Try.ntmps53
    go_wp2
    go_loop [1, 2] (fun a b => a = .int .i64 0 ∧ b = .int .i64 0) (fun _ _ => 0)
    case atStart => exact ⟨rfl, rfl⟩
    case round =>
      obtain ⟨rfl, rfl⟩ := hrel
      go_wp2_with fail
      refine (HI.out _ HW.out).mono ?_
      rintro e w' ⟨rfl, h2⟩
      go_wp2
      (try simp only [Exit.inBlock, Exit.then]); refine bodyPost_ret (results_none rfl _ _ _) rfl ?_
      exact ⟨rfl, h2⟩
  have HP2 := Lib.hid hpdq
  clear hpdq
  have hl : ∀ W, Calls Try.prog 54 #[.int .u64 0] W fun e w' => e = .returned (.int .i64 0) ∧ w' = W := fun W => Try.bits_Len 0 W (by decide) (by decide)
  go_enter Try.func39, Try.ntmps39
  go_wp2_with fail
  refine (hl _).mono ?_
  rintro e w' ⟨rfl, rfl⟩
  go_wp2_with fail
  refine (HP2.out _ H.out).mono ?_
  rintro e w' ⟨rfl, h2⟩
  go_wp2
  go_end0
  exact ⟨rfl, h2⟩
theorem sort_calls (v : Value) (s : List Rg) (h : St B w0 w (Row2 v s • R)) (hs : s.length ≤ 1000000000000) :
    Calls Try.prog 39 #[v, .func (.func 40) #[] #[]] w fun e w' => e = .returned (.tuple #[]) ∧ ∃ t, t.Perm s ∧ t.Pairwise (fun x y => x.1 ≤ y.1) ∧ St B w0 w' (Row2 v t • R) := by
  rcases h.rowForm with ⟨rfl, hn, hx⟩ | ⟨g, cap, cur, lo, hi, rfl, hf, hnc, hcm, hsz, hx, hb⟩
  · have e : s = [] := List.eq_nil_of_length_eq_zero hn
    subst e
    refine (sort_nil w h).mono ?_
    rintro e w' ⟨rfl, h2⟩
    exact ⟨rfl, [], List.Perm.nil, List.Pairwise.nil, h2⟩
  · have eg : ∀ args w, (callFunc 40 args).run Try.prog w = .ok (.enter 40 args) w := enters_of Try.func40 (by kernel_rfl) rfl
    have hle : s.length * 2 ≤ cur.size := by rw [hsz]; exact Nat.mul_le_mul_right _ hnc
    have hfl : (flatK cell2 2 s.toArray).toList = cells2 s := flat_cells _
    have hH : HoldsK cell2 2 w g 0 s.toArray := by
      intro j hj
      have hj' : j < s.length * 2 := by simpa using hj
      refine ⟨?_, hb.free _ (by omega)⟩
      refine hb.cell _ ?_
      have h1 : (cells2 s)[j]? = some (flatK cell2 2 s.toArray)[j]! := by
        rw [← hfl, Array.getElem?_toList, Array.getElem?_eq_getElem hj, getElem!_pos _ j hj]
      rw [← hx, List.getElem?_take, if_pos hj', Array.getElem?_toList] at h1
      rw [Nat.zero_add]
      exact h1
    have hcon := AnyQ.slices_SortFunc Try.sortIv 2 Try.isAgg32 Try.sizeOf32 cell2 (fun _ => rfl) (fun x v hv => by simp [cell2] at hv; rcases hv with rfl | rfl <;> rfl) cmpLo swoLo 40 #[] g 0 cap s.toArray w eg (cmp_lays g 0 _ w) hH hb.block_lt (by simp; omega)
    refine Calls.mono hcon ?_
    rintro e w' ⟨rfl, d', n, os, ⟨hp1, hp2, hp3⟩, hso, rfl⟩
    have hd' : d'.size = s.length := by simpa using hp1
    refine ⟨rfl, d'.toList, ?_, ?_, ?_⟩
    · have e1 : (d'.extract 0 s.toArray.size).toList = d'.toList := by simp [← hd']
      have e2 : (s.toArray.extract 0 s.toArray.size).toList = s := by simp
      rw [e1, e2] at hp3
      exact hp3
    · rw [List.pairwise_iff_getElem]
      intro i j hi hj hij
      have h1 := hso i j (Nat.zero_le _) hij (by simp at hj; simpa [hd'] using hj)
      rw [ltLo] at h1
      simp at hi hj
      rw [getElem!_pos d' j hj, getElem!_pos d' i hi] at h1
      simp at h1 ⊢
      exact h1
    · have e3 : d'.toList.length = s.length := by simpa using hd'
      have h4 := (St.sorted hb n d' os).blkRow (n := s.length) (cap := cap) (size := 2) (xs := cells2 d'.toList) hnc hcm (by simpa [putCells] using hsz) (by simpa [putCells] using hf) (by
        rw [← flat_cells d', ← put_take (flatK cell2 2 d') cur (by rw [size_flatK, hd']; exact hle), size_flatK, hd'])
      unfold Row2
      rw [e3]
      exact h4
end Go.Proofs.Ytkidoggmlafkgaa.Span
