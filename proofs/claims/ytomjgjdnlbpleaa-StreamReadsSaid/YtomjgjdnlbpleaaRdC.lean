/- The walks of the reference's reader. -/
import Derived.Test.YtomjgjdnlbpleaaRdB
import Derived.Test.YtomjgjdnlbpleaaRefC
namespace Go.Proofs.Ytomjgjdnlbpleaa.Stream
open Go.RowKit Go.Proofs.Ytomjgjdnlbpleaa.Sep Go.Proofs.Ytomjgjdnlbpleaa.Bits Go.Proofs.Ytomjgjdnlbpleaa.Num
variable {B : Nat} {w0 w : World} {R : HP} {a : Nat} {xs : List Int} {p : Nat} {L : List Bool}

/-- The reference's reader at a block: its text of bits, and the place. -/
def Qr (a : Nat) (L : List Bool) (p : Nat) : HP where
  on w F := ∃ t, (Blk a (.cells #[.string (strOf L), .int .i64 p] t (0, 0))).on w F
  loc := fun ⟨t, h⟩ hk => ⟨t, (Blk _ _).loc h hk⟩
  up := fun ⟨t, h⟩ hk => ⟨t, (Blk _ _).up h hk⟩
theorem Qr.open_ (h : St B w0 w (Qr a L p • R)) : ∃ t, St B w0 w (Blk a (.cells #[.string (strOf L), .int .i64 p] t (0, 0)) • R) := by
  obtain ⟨hb, hs, F, hF, F1, F2, h1, h2, hd, ⟨t, ha⟩, hr⟩ := h
  exact ⟨t, ⟨hb, hs, F, hF, F1, F2, h1, h2, hd, ha, hr⟩⟩
theorem Qr.shut {t : TypeId} {q : Int} {s : ByteArray} (h : St B w0 w (Blk a (.cells #[.string s, .int .i64 q] t (0, 0)) • R)) (hs : s = strOf L) (hk : q = p) : St B w0 w (Qr a L p • R) := by
  subst hs hk
  exact h.mapFirst fun w F hh => ⟨t, hh⟩
theorem Qr.cells (h : St B w0 w (Qr a L p • R)) : w.cell? ⟨a, 0, none⟩ = some (.string (strOf L)) ∧ w.cell? ⟨a, 1, none⟩ = some (.int .i64 p) ∧ w.frozen? ⟨a, 1, none⟩ = false ∧
    ∀ q : Nat, St B w0 (w.setCell ⟨a, 1, none⟩ (.int .i64 q)) (Qr a L q • R) := by
  obtain ⟨t, h1⟩ := Qr.open_ h
  exact ⟨h1.cell 0 rfl, h1.cell 1 rfl, h1.free 1 (.inr (Nat.le_refl _)), fun q => Qr.shut (h1.set 1 (.int .i64 q)) rfl rfl⟩

theorem qnew_calls (v : Value) (h : St B w0 w R) (hr : ∀ w', St B w0 w' R → Reads8 w' v xs) (hx : ∀ x ∈ xs, 0 ≤ x ∧ x < 256) (hb : xs.length ≤ 10000000000) :
    Calls Try.prog 44 #[v] w fun e w' => ∃ a, e = .returned (.pointer (some ⟨a, 0, none⟩)) ∧ St B w0 w' (Qr a (unpack xs) 0 • R) := by
  have H := Lib.hid h
  have HC := Lib.hid (rocts_calls [] v xs (by decide) hb hx h hr)
  clear h hr hx
  go_enter Try.func44, Try.ntmps44
  go_wp2_with fail
  refine HC.out.mono ?_
  rintro e w1 ⟨rfl, h2⟩
  rw [List.nil_append]
  have H2 := Lib.hid h2
  clear h2 H
  go_wp2
  go_ret
  exact ⟨_, rfl, Qr.shut (H2.out.alloc _) rfl rfl⟩

theorem qget_bad (width : Int) (w : World) (ad : Addr) (hw : width < 0 ∨ 64 < width) :
    Calls Try.prog 45 #[.pointer (some ad), .int .i64 width] w fun e w' => e = .returned (.tuple #[.int .u64 0, .int .i64 1]) ∧ w = w' := by
  by_cases h : width < 0
  · go_enter Try.func45, Try.ntmps45
    go_wp2
    go_ret2
    exact ⟨rfl, rfl⟩
  · have h2 : 64 < width := by omega
    go_enter Try.func45, Try.ntmps45
    go_wp2
    go_ret2
    exact ⟨rfl, rfl⟩
theorem qget_short (width : Int) (h : St B w0 w (Qr a L p • R)) (hp : p ≤ L.length) (h0 : 0 ≤ width) (h64 : width ≤ 64) (hs : (L.length : Int) - (p : Int) < width) :
    Calls Try.prog 45 #[.pointer (some ⟨a, 0, none⟩), .int .i64 width] w fun e w' => e = .returned (.tuple #[.int .u64 0, .int .i64 2]) ∧ St B w0 w' (Qr a L p • R) := by
  obtain ⟨c0, c1, f1, -⟩ := Qr.cells h
  have H := Lib.hid h
  have hsz := strOf_size L
  rw [← hsz] at hp hs
  clear h hsz
  go_enter Try.func45, Try.ntmps45
  go_wp2
  go_region
  go_wp2
  go_ret2
  exact ⟨rfl, H.out.drew⟩

set_option maxHeartbeats 800000 in
theorem qget_ok (n : Nat) (h : St B w0 w (Qr a L p • R)) (hp : p + n ≤ L.length) (hb : L.length ≤ 8000000000000) (h64 : n ≤ 64) :
    Calls Try.prog 45 #[.pointer (some ⟨a, 0, none⟩), .int .i64 n] w fun e w' => e = .returned (.tuple #[.int .u64 (getB ((L.drop p).take n)), .int .i64 0]) ∧ St B w0 w' (Qr a L (p + n) • R) := by
  obtain ⟨c0, c1, f1, -⟩ := Qr.cells h
  have H := Lib.hid h
  have hsz := strOf_size L
  have HSZ := Lib.hid hsz
  have hp2 : p + n ≤ (strOf L).size := by rw [hsz]; exact hp
  have hb2 : (strOf L).size ≤ 8000000000000 := by rw [hsz]; exact hb
  have hle : ¬ (((strOf L).size : Int) - (p : Int) < n) := by omega
  clear h hsz
  go_enter Try.func45, Try.ntmps45
  go_wp2
  go_region
  go_wp2
  go_loopw [6, 7] (fun v i wr => ∃ k : Nat, k ≤ n ∧ i = .int .i64 k ∧ v = .int .u64 (getB ((L.drop p).take k)) ∧ Hid (St B w0 wr (Qr a L p • R))) (fun _ i _ => n - (intOf i).toNat)
  case atStart => exact ⟨0, Nat.zero_le _, rfl, rfl, Lib.hid H.out.drew⟩
  case round =>
    clear c0 c1 f1
    obtain ⟨k, hk, rfl, rfl, H3⟩ := hrel
    obtain ⟨c0, c1, f1, hset⟩ := Qr.cells H3.out
    have HSET := Lib.hid hset
    clear hset
    by_cases hlt : k < n
    · obtain ⟨hv0, hv1⟩ := getB_take_range L p k (by omega)
      obtain ⟨b, hbk⟩ : ∃ b, L[p + k]? = some b := ⟨_, List.getElem?_eq_getElem (by omega)⟩
      have hst := take_bit L p k b hbk
      generalize getB ((L.drop p).take k) = u at hst hv0 hv1
      obtain ⟨q, hq⟩ : ∃ q, q = p + k := ⟨_, rfl⟩
      rw [← hq] at hbk
      have hw : IntKind.i64.wrap ((p : Int) + k) = (q : Int) := by rw [IntKind.wrap_i64]; omega
      have HV := Lib.hid (And.intro hst (And.intro hbk hq))
      have hin : q < (strOf L).size := by omega
      have hin0 : (0 : Int) ≤ (q : Int) := by omega
      have hin1 : (q : Int) < ((strOf L).size : Int) := by omega
      clear hst hbk hq
      go_wp2
      go_region
      go_wp2
      have hb01 := b2i_01 b
      have hfin : IntKind.u64.wrap (u * 2 + (((strOf L)[q]'hin).toNat - 48 : Int) % 256) = getB ((L.drop p).take (k + 1)) := by
        rw [HV.out.1, strOf_get L q b HV.out.2.1 hin, wraps_u64 _ (by omega) (by omega)]
        omega
      exact ⟨⟨k + 1, by omega, by go_num, by rw [hfin], Lib.hid H3.out.drew⟩, by simp only [intOf]; omega⟩
    · obtain rfl : k = n := by omega
      go_wp2
      go_ret2
      refine ⟨rfl, ?_⟩
      have := HSET.out (p + k)
      rw [show ((p + k : Nat) : Int) = (p : Int) + k from by omega] at this
      exact this

theorem qget_any (width : Int) (h : St B w0 w (Qr a L p • R)) (hp : p ≤ L.length) (hb : L.length ≤ 8000000000000) :
    Calls Try.prog 45 #[.pointer (some ⟨a, 0, none⟩), .int .i64 width] w fun e w' => e = .returned (.tuple #[.int .u64 (getV L p width), .int .i64 (getE L p width)]) ∧ St B w0 w' (Qr a L (getP L p width) • R) := by
  by_cases h1 : width < 0 ∨ 64 < width
  · have he : getE L p width = 1 := by unfold getE; rw [if_pos h1]
    refine (qget_bad width w _ h1).mono ?_
    rintro e w' ⟨rfl, rfl⟩
    rw [getV, getP, he]
    exact ⟨rfl, h⟩
  · by_cases h2 : (L.length : Int) - p < width
    · have he : getE L p width = 2 := by unfold getE; rw [if_neg h1, if_pos h2]
      refine (qget_short width h hp (by omega) (by omega) h2).mono ?_
      rintro e w' ⟨rfl, h3⟩
      rw [getV, getP, he]
      exact ⟨rfl, h3⟩
    · have he : getE L p width = 0 := by unfold getE; rw [if_neg h1, if_neg h2]
      obtain ⟨n, rfl⟩ := Int.eq_ofNat_of_zero_le (show 0 ≤ width by omega)
      rw [getV, getP, he]
      exact qget_ok n h (by omega) hb (by omega)

set_option maxHeartbeats 400000 in
theorem qalign_calls (h : St B w0 w (Qr a L p • R)) (hp : p ≤ L.length) (hb : L.length ≤ 8000000000000) (h8 : L.length % 8 = 0) :
    Calls Try.prog 47 #[.pointer (some ⟨a, 0, none⟩)] w fun e w' => e = .returned (.int .i64 (alignE L p)) ∧ St B w0 w' (Qr a L (alignP L p) • R) := by
  obtain ⟨c0, c1, f1, hset⟩ := Qr.cells h
  have hTl := upTo8_le L p h8 hp
  have hpT : p ≤ upTo8 p := by unfold upTo8; omega
  have hT8 : upTo8 p % 8 = 0 ∧ upTo8 p < p + 8 := by unfold upTo8; omega
  have hal : ∀ r, anyB L p (upTo8 p) = r → alignE L p = (if r = true then 3 else 0) ∧ alignP L p = (if r = true then p else upTo8 p) := by
    intro r hr
    have e : alignE L p = (if r = true then 3 else 0) := by unfold alignE; rw [hr]
    refine ⟨e, ?_⟩
    unfold alignP
    rw [e]
    cases r <;> rfl
  generalize upTo8 p = T at hTl hpT hT8 hal
  obtain ⟨hT8, hTp⟩ := hT8
  have hsz := strOf_size L
  have H := Lib.hid (And.intro h (And.intro hsz (And.intro hset hal)))
  have hTs : T ≤ (strOf L).size := by omega
  have hTb : T ≤ 8000000000000 := by omega
  clear h hset hal hsz
  go_enter Try.func47, Try.ntmps47
  go_wp2_with fail
  go_loop [3] (fun i => ∃ k : Nat, p ≤ k ∧ k ≤ T ∧ i = .int .i64 k ∧ Hid (∀ j, p ≤ j → j < k → L[j]? ≠ some true)) (fun i => T - (intOf i).toNat)
  case atStart => exact ⟨p, Nat.le_refl _, hpT, rfl, Lib.hid fun j h1 h2 => by omega⟩
  case round =>
    obtain ⟨k, hk1, hk2, rfl, HK⟩ := hrel
    by_cases hlt : k < T
    · have hk8 : ((k : Int) % 8 != 0) = true := by
        rw [bne_iff_ne]
        intro e
        have : (T - k) % 8 = 0 := by omega
        omega
      obtain ⟨b, hbk⟩ : ∃ b, L[k]? = some b := ⟨_, List.getElem?_eq_getElem (by omega)⟩
      have hin : k < (strOf L).size := by omega
      have hch := strOf_get L k b hbk hin
      have HB := Lib.hid hbk
      cases b with
      | true =>
        have ht : ((((strOf L)[k]'hin).toNat : Int) != 48) = true := by rw [hch]; rfl
        clear hch hbk
        go_wp2
        go_ret
        obtain ⟨e1, e2⟩ := H.out.2.2.2 true (anyB_true _ p T k hk1 hlt HB.out)
        rw [e1, e2]
        exact ⟨rfl, H.out.1⟩
      | false =>
        have ht : ((((strOf L)[k]'hin).toNat : Int) != 48) = false := by rw [hch]; rfl
        clear hch hbk
        go_wp2
        refine ⟨⟨k + 1, by omega, by omega, by go_num, Lib.hid fun j h1 h2 => ?_⟩, by simp only [intOf]; omega⟩
        by_cases hj : j < k
        · exact HK.out j h1 hj
        · rw [show j = k from by omega, HB.out]; simp
    · obtain rfl : k = T := by omega
      have hk8 : ((k : Int) % 8 != 0) = false := by rw [bne_eq_false_iff_eq]; omega
      obtain ⟨e1, e2⟩ := H.out.2.2.2 false (anyB_false _ p k HK.out)
      have HE := Lib.hid (And.intro e1 e2)
      clear e1 e2
      go_wp2
      go_ret
      rw [HE.out.1, HE.out.2]
      exact ⟨rfl, H.out.2.2.1 k⟩
end Go.Proofs.Ytomjgjdnlbpleaa.Stream
