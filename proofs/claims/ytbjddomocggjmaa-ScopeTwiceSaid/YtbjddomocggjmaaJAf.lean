/- names of the reference of layer 8: walked. -/
import Derived.KernelRfl
import Derived.Test.YtbjddomocggjmaaJG
import Derived.Test.YtbjddomocggjmaaJAb
import Derived.Test.YtbjddomocggjmaaJAe
section
namespace Go.Proofs.Ytbjddomocggjmaa.Sc
open Go.RowKit Go.ChangeShapes Go.WideShapes Go.Proofs.Ytbjddomocggjmaa.Sep
open Go.Proofs.YtbjddomocggjmaaW.PrintWords
variable {B : Nat} {w0 w : World} {R : HP}
open Go.Maps Go.ChangeMaps Go.MapKept
theorem mv_clear {b : Nat} {m : Kv} {t e ty : TypeId} (ht : Try.prog.underlying t = some (.map 9 e)) (h : St B w0 w (MapV b m • R)) :
    ∃ w', (Builtin.clear_ #[t] ty #[.map (some b)]).run Try.prog w = .ok (.tuple #[]) w' ∧ St B w0 w' (MapV b [] • R) := by
  obtain ⟨es, clock, hb, -⟩ := mv_owns h
  refine ⟨setBlock w b (.map #[] clock), ?_, ?_⟩
  · simp [Builtin.clear_, run_underlying ht, MapKept.run_getObj_map hb, MapKept.run_setObj_map _ hb, Result.andThen, setBlock]
  · refine h.step (by simp [setBlock]) rfl rfl rfl fun F hF ⟨hf, _⟩ => ⟨fun k hk hnk => heap_setBlock_other hb _ (fun e => hnk (e ▸ hf)), F, fun b hb => .inl hb, hf, ?_⟩
    exact ⟨#[], clock, heap_setBlock_same hb _, ⟨by simp, stamped_empty clock, by simp⟩, Nat.le_refl _, rfl⟩
/-- An entry's cells. -/
structure EnC (w0 : World) (x : En) (cs ts : List Value) : Prop where
  len : cs.length = 18
  m : cs[0]? = some (.string x.m)
  n : cs[1]? = some (.string x.n)
  typ : ∀ (j : Nat) (v : Value), ts[j]? = some v → cs[3 + j]? = some v
  tlen : ts.length = 15
  kt : kTy.K w0 x.t ts
  one : ∀ u ∈ cs, u.oneCell' = true
theorem en_cells {x : En} {cs : List Value} (h : kEn.K w0 x cs) : ∃ ts, EnC w0 x cs ts := by
  have hl : cs.length = 18 := kEn.K_len h
  obtain ⟨ts, e, hT⟩ := kEn_open h
  refine ⟨ts, hl, by rw [e]; rfl, by rw [e]; rfl, fun j v hv => ?_, kTy.K_len hT, hT, kEn.K_one h⟩
  rw [e, Nat.add_comm]
  exact hv
/-- What a round keeps, whatever the names are. -/
structure Rk (K0 : List (List UInt8)) (l : List En) (j : Nat) (s : Fst) : Prop where
  nodup : s.known.Nodup
  sub : ∀ k ∈ s.known, k ∈ K0 ∨ ∃ x ∈ l, enNm x = k
  grew : s.grows = true → K0.length < s.known.length
  len : K0.length ≤ s.known.length
  most : s.known.length ≤ K0.length + j
  left : s.left ≤ j
  first : s.first.length = j
theorem rk_step {K0 : List (List UInt8)} {l : List En} {j : Nat} {s : Fst} {x : En} (h : Rk K0 l j s) (hx : x ∈ l) : Rk K0 l (j + 1) (stepF s x) := by
  obtain ⟨h1, h2, h3, h4, h5, h6, h7⟩ := h
  unfold stepF
  dsimp only
  split
  · exact ⟨h1, h2, h3, h4, by dsimp only; omega, by dsimp only; omega, by dsimp only; rw [List.length_append, List.length_singleton]; omega⟩
  · next hc =>
    split
    · next hd =>
      have hn : enNm x ∉ s.known := fun hm => by
        rw [Bool.and_eq_true, Bool.not_eq_true'] at hd
        rw [hd.1, List.contains_iff_mem.2 hm] at hc
        exact hc (by simp)
      refine ⟨?_, fun k hk => ?_, fun _ => ?_, ?_, ?_, ?_, ?_⟩
      · rw [List.nodup_append]
        refine ⟨h1, by simp, fun a ha b hb => ?_⟩
        rw [List.mem_singleton.1 hb]
        rintro rfl
        exact hn ha
      · rcases List.mem_append.1 hk with hk | hk
        · exact h2 k hk
        · exact .inr ⟨x, hx, (List.mem_singleton.1 hk).symm⟩
      all_goals dsimp only; try rw [List.length_append, List.length_singleton]
      all_goals omega
    · exact ⟨h1, h2, h3, h4, by dsimp only; omega, by dsimp only; omega, by dsimp only; rw [List.length_append, List.length_singleton]; omega⟩
def stF (K : List (List UInt8)) (l : List En) : Fst := l.foldl stepF ⟨K, [], 0, false⟩
theorem stF_next {K : List (List UInt8)} {l : List En} {x : Int} {r : En} (h0 : 0 ≤ x) (h : l[x.toNat]? = some r) : stF K (l.take (x + 1).toNat) = stepF (stF K (l.take x.toNat)) r := by
  have e : (x + 1).toNat = x.toNat + 1 := by omega
  rw [e, List.take_add_one, h]
  unfold stF
  rw [List.foldl_append]
  rfl
theorem step_again {s : Fst} {x : En} (ha : s.first.contains (enNm x) = true) : stepF s x = if finT s.known.contains 40 x.t = true then { s with first := s.first ++ [enNm x] } else { s with first := s.first ++ [enNm x], left := s.left + 1 } := by
  unfold stepF
  simp only [ha, Bool.true_and, Bool.not_true, Bool.and_false, Bool.or_false, Bool.false_and]
  rfl
theorem step_known {s : Fst} {x : En} (ha : s.first.contains (enNm x) = false) (hk : s.known.contains (enNm x) = true) : stepF s x = { s with first := s.first ++ [enNm x] } := by
  unfold stepF
  simp only [ha, hk, Bool.false_and, Bool.not_false, Bool.and_true, Bool.or_true]
  rfl
theorem step_new {s : Fst} {x : En} (ha : s.first.contains (enNm x) = false) (hk : s.known.contains (enNm x) = false) : stepF s x = if finT s.known.contains 40 x.t = true then ⟨s.known ++ [enNm x], s.first ++ [enNm x], s.left, true⟩ else { s with first := s.first ++ [enNm x], left := s.left + 1 } := by
  unfold stepF
  simp only [ha, hk, Bool.false_and, Bool.not_false, Bool.and_true, Bool.false_or, Bool.true_and]
  rfl
end Go.Proofs.Ytbjddomocggjmaa.Sc
end
section
namespace Go.Proofs.Ytbjddomocggjmaa.Sc
open Go.RowKit Go.ChangeShapes Go.WideShapes Go.Proofs.Ytbjddomocggjmaa.Sep
open Go.Proofs.YtbjddomocggjmaaW.PrintWords
variable {B : Nat} {w0 w : World} {R : HP}
def kwL : List ByteArray := keyL.map fun l => ⟨l.toArray⟩
theorem kw_in (s : ByteArray) : keyB s = kwL.any fun k => k.toList == s.toList := by
  unfold keyB kwL
  rw [List.any_map]
  simp only [Function.comp_def, Lib.toList_data]
  rw [Bool.eq_iff_iff, List.contains_iff_mem, List.any_eq_true]
  simp
set_option maxHeartbeats 4000000 in
set_option maxRecDepth 100000 in
theorem rkey_calls (s : ByteArray) (h : St B w0 w R) : Calls Try.prog 56 #[.string s] w fun e w' => e = .returned (.bool (keyB s)) ∧ St B w0 w' R := by
  generalize hg : w.heap.size = g
  have H := Lib.hid (alloc_at (n := g) h (.cells (kwL.map Value.string).toArray 9) hg.symm)
  clear h
  go_enter Try.func56, Try.ntmps56
  go_wp2
  go_loopw [4] (fun v wr => ∃ x : Int, 0 ≤ x ∧ x ≤ 26 ∧ v = .int .i64 x ∧ Hid (St B w0 wr (Blk g (.cells (kwL.map Value.string).toArray 9) • R)) ∧ Hid (∀ k ∈ kwL.take x.toNat, (k.toList == s.toList) = false)) (fun v _ => 26 - (intOf v).toNat)
  case atStart => exact ⟨0, Int.le_refl _, by omega, rfl, H, Lib.hid (by simp)⟩
  case round =>
    clear H
    obtain ⟨x, hx0, hx1, rfl, HR, HT⟩ := hrel
    by_cases hlt : x < 26
    · have hln : x.toNat < kwL.length := by show x.toNat < 26; omega
      obtain ⟨k, hk⟩ : ∃ k, kwL[x.toNat]? = some k := ⟨_, List.getElem?_eq_getElem hln⟩
      have d0 := HR.out.cell x.toNat (v := .string k) (by rw [List.getElem?_toArray, List.getElem?_map, hk]; rfl)
      have p0 := eq_true hx0
      have p1 := eq_true hlt
      have e1 : (x + 1).toNat = x.toNat + 1 := by omega
      cases hq : k.toList == s.toList with
      | true =>
        have HZ : Hid (keyB s = true) := Lib.hid (by rw [kw_in, List.any_eq_true]; exact ⟨k, List.mem_of_getElem? hk, hq⟩)
        go_wp2
        go_ret
        exact ⟨by rw [HZ.out]; rfl, HR.out.drop⟩
      | false =>
        have HT2 : Hid (∀ k ∈ kwL.take (x + 1).toNat, (k.toList == s.toList) = false) := Lib.hid (by
          rw [e1, List.take_add_one, hk]
          intro y hy
          rcases List.mem_append.1 hy with hy | hy
          · exact HT.out y hy
          · rw [show y = k by simpa using hy]; exact hq)
        go_wp2
        exact ⟨⟨x + 1, by omega, by omega, by go_num, HR, HT2⟩, by simp only [intOf]; omega⟩
    · have hlt' := eq_false hlt
      have HZ : Hid (keyB s = false) := Lib.hid (by
        rw [kw_in, List.any_eq_false]
        intro k hk
        rw [HT.out k (by rw [List.take_of_length_le (show kwL.length ≤ x.toNat by show 26 ≤ x.toNat; omega)]; exact hk)]
        simp)
      go_wp2
      go_ret
      exact ⟨by rw [HZ.out]; rfl, HR.out.drop⟩
theorem rname_calls (s : ByteArray) (h : St B w0 w R) (hs : s.size ≤ M) : Calls Try.prog 26 #[.string s] w fun e w' => e = .returned (.bool (nameB s)) ∧ St B w0 w' R := by
  have HU := Lib.hid (rupper_calls s w hs)
  have HK := Lib.hid (rkey_calls s h)
  have H := Lib.hid h
  clear h
  unfold nameB
  cases hq : upperB s.data.toList with
  | false =>
    rw [hq] at HU
    go_enter Try.func26, Try.ntmps26
    go_wp2_with fail
    refine HU.out.mono ?_
    rintro e w1 ⟨rfl, rfl⟩
    go_wp2
    go_ret
    exact ⟨rfl, H.out⟩
  | true =>
    rw [hq] at HU
    go_enter Try.func26, Try.ntmps26
    go_wp2_with fail
    refine HU.out.mono ?_
    rintro e w1 ⟨rfl, rfl⟩
    go_wp2_with fail
    refine HK.out.mono ?_
    rintro e w2 ⟨rfl, h2⟩
    have H2 := Lib.hid h2
    clear h2
    go_wp2
    go_ret
    exact ⟨rfl, H2.out⟩
end Go.Proofs.Ytbjddomocggjmaa.Sc
end
section
namespace Go.Proofs.Ytbjddomocggjmaa.Sc
open Go.RowKit Go.ChangeShapes Go.WideShapes Go.Proofs.Ytbjddomocggjmaa.Sep
open Go.Proofs.YtbjddomocggjmaaW.PrintWords
variable {B : Nat} {w0 w : World} {R : HP}
set_option maxHeartbeats 4000000 in
theorem rnames_calls (A : Option Addr) (c : Nat) (l : List ByteArray) (h : S w0 w R) (hC : Kd.string.C w0 A l.length l) (ho : ∀ s ∈ l, oS s) :
    Calls Try.prog 95 #[.slice A l.length c] w fun e w' => e = .returned (.bool (wordsB l)) ∧ S w0 w' R := by
  have hl : l.length ≤ 9223372036854775807 := hC.2.1
  have HC := Lib.hid (And.intro hC ho)
  have H := Lib.hid h
  clear h hC ho
  go_enter Try.func95, Try.ntmps95
  go_wp2
  go_loopw [3] (fun v wr => ∃ x : Int, 0 ≤ x ∧ x ≤ l.length ∧ v = .int .i64 x ∧ Hid (S w0 wr R) ∧ Hid (∀ s ∈ l.take x.toNat, lowerB s.data.toList = true)) (fun v _ => l.length - (intOf v).toNat)
  case atStart => exact ⟨0, Int.le_refl _, by omega, rfl, H, Lib.hid (by simp)⟩
  case round =>
    clear H
    obtain ⟨x, hx0, hx1, rfl, HR, HT⟩ := hrel
    by_cases hlt : x < l.length
    · obtain ⟨ad, cs, rfl, hcl0, hK, hcell0⟩ := Kd.C_get HC.out.1 (⟨#[]⟩ : ByteArray) x hx0 hlt
      have hcell : ∀ (j : Nat) (u : Value), cs[j]? = some u → w0.cell? (ad.add (x.toNat * 1 + j)) = some u := hcell0
      have HG := Lib.hid (getD_mem l (⟨#[]⟩ : ByteArray) x hx0 hlt)
      obtain rfl : cs = [.string (l.getD x.toNat (⟨#[]⟩ : ByteArray))] := hK
      generalize l.getD x.toNat (⟨#[]⟩ : ByteArray) = r at *
      have d0 : wr.cell? (ad.add x.toNat) = some (.string r) := by have h := pw_cell_below HR.out.below (hcell 0 _ rfl); rwa [Nat.mul_one, Nat.add_zero] at h
      have p126 := eq_true hx0
      have q126 : (x < (l.length : Int)) = True := eq_true hlt
      have e1 : (x + 1).toNat = x.toNat + 1 := by omega
      have hm := List.mem_of_getElem? HG.out
      have HL := Lib.hid (fun W => rlower_calls r W (HC.out.2 r hm))
      clear hcell hcell0 hcl0
      go_wp2_with fail
      refine (HL.out _).mono ?_
      rintro e w1 ⟨rfl, rfl⟩
      cases hq : lowerB r.data.toList with
      | false =>
        have HZ : Hid (wordsB l = false) := Lib.hid (by
          unfold wordsB
          rw [List.all_eq_false.2 ⟨r, hm, by rw [hq]; simp⟩, Bool.and_false])
        clear hm hq
        go_wp2
        go_ret
        exact ⟨by rw [HZ.out]; rfl, HR.out⟩
      | true =>
        have HT2 : Hid (∀ s ∈ l.take (x + 1).toNat, lowerB s.data.toList = true) := Lib.hid (by
          rw [e1, List.take_add_one, HG.out]
          intro y hy
          rcases List.mem_append.1 hy with hy | hy
          · exact HT.out y hy
          · rw [show y = r by simpa using hy]; exact hq)
        clear hm hq
        go_wp2
        exact ⟨⟨x + 1, by omega, by omega, by go_num, HR, HT2⟩, by simp only [intOf]; omega⟩
    · have hlt' : (x < (l.length : Int)) = False := eq_false hlt
      have hall : (l.all fun s => lowerB s.data.toList) = true := List.all_eq_true.2 fun s hs => HT.out s (by rw [List.take_of_length_le (by omega)]; exact hs)
      by_cases h256 : l.length ≤ 256
      · have p2 : decide ((l.length : Int) ≤ 256) = true := decide_eq_true (by omega)
        have HZ : Hid (wordsB l = true) := Lib.hid (by unfold wordsB; rw [hall, decide_eq_true h256]; rfl)
        clear hall h256
        go_wp2
        go_ret
        exact ⟨by rw [HZ.out]; rfl, HR.out⟩
      · have p2 : decide ((l.length : Int) ≤ 256) = false := decide_eq_false (by omega)
        have HZ : Hid (wordsB l = false) := Lib.hid (by unfold wordsB; rw [hall, decide_eq_false h256]; rfl)
        clear hall h256
        go_wp2
        go_ret
        exact ⟨by rw [HZ.out]; rfl, HR.out⟩
end Go.Proofs.Ytbjddomocggjmaa.Sc
end
