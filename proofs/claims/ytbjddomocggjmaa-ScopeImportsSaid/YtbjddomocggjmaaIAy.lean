/- The law ScopeImports: walked. -/
import Derived.Deep.Cut
import Derived.Test.YtbjddomocggjmaaIAn
import Derived.Test.YtbjddomocggjmaaIAo
import Derived.Test.YtbjddomocggjmaaIAx
namespace Go.Proofs.Ytbjddomocggjmaa.Sc
open Go.RowKit Go.ChangeShapes Go.WideShapes Go.Proofs.Ytbjddomocggjmaa.Sep
open Go.Proofs.YtbjddomocggjmaaW.PrintWords
variable {B : Nat} {w0 w : World} {R : HP}
theorem tyK_o {s : ByteArray} (hs : oS s) : oTy (tyK 11 s) := fun d => by
  cases d with
  | zero => trivial
  | succ d =>
    have hz : ∀ d, oC d zCon := fun d => by
      cases d with
      | zero => trivial
      | succ d => exact ⟨by unfold i64; decide, by unfold i64; decide, by unfold i64; decide, by decide, fun x hx => by cases hx⟩
    refine ⟨(show i64 (11 : Int) by unfold i64; decide), hs, hz, (by decide : (0 : Nat) ≤ 140737488351232), ?_, ?_, ?_, ?_, ?_, ?_⟩
    all_goals simp [oL, M, tyK]
theorem xB_size (n : ByteArray) : (xB n).size = n.size + 1 := by
  unfold xB
  rw [ByteArray.size_append]
  rfl
theorem one_o {a n : ByteArray} {t : Ty} (ha : oS a) (hn : oS n) (ht : oTy t) : oMd (oneM a n t) :=
  ⟨ha, ⟨Nat.zero_le _, fun y hy => by cases hy⟩, (by decide : 1 ≤ M), fun d hd => by rw [List.mem_singleton.1 hd]; exact ⟨hn, ht⟩⟩
theorem two_o {im : List Im} {b n : ByteArray} (hb : oS b) (hn : n.size ≤ 100) (hi : oL im ∧ ∀ y ∈ im, oIm y) : oMd (twoM im b n) :=
  ⟨hb, hi, (by decide : 1 ≤ M), fun d hd => by rw [List.mem_singleton.1 hd]; exact ⟨(by unfold oS M; rw [xB_size]; omega), tyK_o (by unfold oS M; omega)⟩⟩
theorem im_o {a n : ByteArray} (ha : oS a) (hn : oS n) : oL (imM a n) ∧ ∀ y ∈ imM a n, oIm y :=
  ⟨(by decide : 1 ≤ M), fun y hy => by rw [List.mem_singleton.1 hy]; exact ⟨(by decide : 1 ≤ M), fun s hs => by rw [List.mem_singleton.1 hs]; exact hn, ha⟩⟩
section
variable {g q : Nat} {a b n : ByteArray} {t : Ty} {A7 A10 A11 A12 A13 A14 : Option Addr} {c7 c10 c11 c12 c13 c14 : Nat}
/-- What the two modules read as. -/
theorem one_K (h : S w0 w (Blk (g + 1) (.cells #[.string a, .bool false, .slice none 0 0, .slice (some ⟨g, 0, none⟩) 1 1] 47) • (Blk (q + 3) (.cells #[.string b, .bool false, .slice (some ⟨q + 1, 0, none⟩) 1 1, .slice (some ⟨q + 2, 0, none⟩) 1 1] 47) • (Blk (q + 2) (.cells #[.string (n ++ ⟨#[120]⟩), .int .i64 11, .string n, .int .i64 0, .int .i64 0, .int .i64 0, .bool false, .bool false, .slice none 0 0, .bool false, .string ⟨#[]⟩, .slice none 0 0, .slice none 0 0, .slice none 0 0, .slice none 0 0, .slice none 0 0] 59) • (Blk (q + 1) (.cells #[.slice (some ⟨q, 0, none⟩) 1 1, .string a] 69) • (Blk q (.cells #[.string n] 9) • (Blk g (.cells #[.string n, .int .i64 t.k, .string t.n, .int .i64 t.c.f0, .int .i64 t.c.f1, .int .i64 t.c.f2, .bool t.c.f3, .bool t.c.f4, .slice A7 t.c.f5.length c7, .bool t.e, .string t.fr, .slice A10 t.ns.length c10, .slice A11 t.mo.length c11, .slice A12 t.ps.length c12, .slice A13 t.ad.length c13, .slice A14 t.el.length c14] 59) • R))))))) (hK : kTy.K w0 t [.int .i64 t.k, .string t.n, .int .i64 t.c.f0, .int .i64 t.c.f1, .int .i64 t.c.f2, .bool t.c.f3, .bool t.c.f4, .slice A7 t.c.f5.length c7, .bool t.e, .string t.fr, .slice A10 t.ns.length c10, .slice A11 t.mo.length c11, .slice A12 t.ps.length c12, .slice A13 t.ad.length c13, .slice A14 t.el.length c14]) : kMd.K w (oneM a n t) [.string a, .bool false, .slice none 0 0, .slice (some ⟨g, 0, none⟩) 1 1] :=
  kMd_mk w (oneM a n t) (A2 := none) (c2 := 0) (Nat.zero_le _) (c_empty _ _ _) (A3 := some ⟨g, 0, none⟩) (c3 := 1) (Nat.le_refl _)
    (blk_C (six h).block (Reps.snoc (ps := []) (cs := []) (Reps.none _ _) (kDf_mk w ⟨n, t⟩ (kTy.K_below h.below hK)) rfl) (show 1 ≤ 1000 by decide))
theorem two_K (h : S w0 w (Blk (g + 1) (.cells #[.string a, .bool false, .slice none 0 0, .slice (some ⟨g, 0, none⟩) 1 1] 47) • (Blk (q + 3) (.cells #[.string b, .bool false, .slice (some ⟨q + 1, 0, none⟩) 1 1, .slice (some ⟨q + 2, 0, none⟩) 1 1] 47) • (Blk (q + 2) (.cells #[.string (n ++ ⟨#[120]⟩), .int .i64 11, .string n, .int .i64 0, .int .i64 0, .int .i64 0, .bool false, .bool false, .slice none 0 0, .bool false, .string ⟨#[]⟩, .slice none 0 0, .slice none 0 0, .slice none 0 0, .slice none 0 0, .slice none 0 0] 59) • (Blk (q + 1) (.cells #[.slice (some ⟨q, 0, none⟩) 1 1, .string a] 69) • (Blk q (.cells #[.string n] 9) • (Blk g (.cells #[.string n, .int .i64 t.k, .string t.n, .int .i64 t.c.f0, .int .i64 t.c.f1, .int .i64 t.c.f2, .bool t.c.f3, .bool t.c.f4, .slice A7 t.c.f5.length c7, .bool t.e, .string t.fr, .slice A10 t.ns.length c10, .slice A11 t.mo.length c11, .slice A12 t.ps.length c12, .slice A13 t.ad.length c13, .slice A14 t.el.length c14] 59) • R))))))) : kMd.K w (twoM (imM a n) b n) [.string b, .bool false, .slice (some ⟨q + 1, 0, none⟩) 1 1, .slice (some ⟨q + 2, 0, none⟩) 1 1] :=
  kMd_mk w (twoM (imM a n) b n) (A2 := some ⟨q + 1, 0, none⟩) (c2 := 1) (Nat.le_refl _)
    (blk_C (four h).block (Reps.snoc (ps := []) (cs := []) (Reps.none _ _) (PScopeTwice.k69_mk w ⟨[n], a⟩ (A0 := some ⟨q, 0, none⟩) (c0 := 1) (Nat.le_refl _) (blk_C (five h).block (Reps.snoc (ps := []) (cs := []) (Reps.none _ _) (show Kd.string.K w n [.string n] from rfl) rfl) (show 1 ≤ 1000 by decide))) rfl) (show 1 ≤ 1000 by decide))
    (A3 := some ⟨q + 2, 0, none⟩) (c3 := 1) (Nat.le_refl _)
    (blk_C h.three.block (Reps.snoc (ps := []) (cs := []) (Reps.none _ _) (kDf_mk w ⟨xB n, tyK 11 n⟩ (tyK_mk w 11 n none none none none none none 0 0 0 0 0 0)) rfl) (show 1 ≤ 1000 by decide))
theorem one_K0 (h : S w0 w (Blk (g + 1) (.cells #[.string a, .bool false, .slice none 0 0, .slice (some ⟨g, 0, none⟩) 1 1] 47) • (Blk (q + 3) (.cells #[.string b, .bool false, .slice none 0 0, .slice (some ⟨q + 2, 0, none⟩) 1 1] 47) • (Blk (q + 2) (.cells #[.string (n ++ ⟨#[120]⟩), .int .i64 11, .string n, .int .i64 0, .int .i64 0, .int .i64 0, .bool false, .bool false, .slice none 0 0, .bool false, .string ⟨#[]⟩, .slice none 0 0, .slice none 0 0, .slice none 0 0, .slice none 0 0, .slice none 0 0] 59) • (Blk (q + 1) (.cells #[.slice (some ⟨q, 0, none⟩) 1 1, .string a] 69) • (Blk q (.cells #[.string n] 9) • (Blk g (.cells #[.string n, .int .i64 t.k, .string t.n, .int .i64 t.c.f0, .int .i64 t.c.f1, .int .i64 t.c.f2, .bool t.c.f3, .bool t.c.f4, .slice A7 t.c.f5.length c7, .bool t.e, .string t.fr, .slice A10 t.ns.length c10, .slice A11 t.mo.length c11, .slice A12 t.ps.length c12, .slice A13 t.ad.length c13, .slice A14 t.el.length c14] 59) • R))))))) (hK : kTy.K w0 t [.int .i64 t.k, .string t.n, .int .i64 t.c.f0, .int .i64 t.c.f1, .int .i64 t.c.f2, .bool t.c.f3, .bool t.c.f4, .slice A7 t.c.f5.length c7, .bool t.e, .string t.fr, .slice A10 t.ns.length c10, .slice A11 t.mo.length c11, .slice A12 t.ps.length c12, .slice A13 t.ad.length c13, .slice A14 t.el.length c14]) : kMd.K w (oneM a n t) [.string a, .bool false, .slice none 0 0, .slice (some ⟨g, 0, none⟩) 1 1] :=
  kMd_mk w (oneM a n t) (A2 := none) (c2 := 0) (Nat.zero_le _) (c_empty _ _ _) (A3 := some ⟨g, 0, none⟩) (c3 := 1) (Nat.le_refl _)
    (blk_C (six h).block (Reps.snoc (ps := []) (cs := []) (Reps.none _ _) (kDf_mk w ⟨n, t⟩ (kTy.K_below h.below hK)) rfl) (show 1 ≤ 1000 by decide))
theorem two_K0 (h : S w0 w (Blk (g + 1) (.cells #[.string a, .bool false, .slice none 0 0, .slice (some ⟨g, 0, none⟩) 1 1] 47) • (Blk (q + 3) (.cells #[.string b, .bool false, .slice none 0 0, .slice (some ⟨q + 2, 0, none⟩) 1 1] 47) • (Blk (q + 2) (.cells #[.string (n ++ ⟨#[120]⟩), .int .i64 11, .string n, .int .i64 0, .int .i64 0, .int .i64 0, .bool false, .bool false, .slice none 0 0, .bool false, .string ⟨#[]⟩, .slice none 0 0, .slice none 0 0, .slice none 0 0, .slice none 0 0, .slice none 0 0] 59) • (Blk (q + 1) (.cells #[.slice (some ⟨q, 0, none⟩) 1 1, .string a] 69) • (Blk q (.cells #[.string n] 9) • (Blk g (.cells #[.string n, .int .i64 t.k, .string t.n, .int .i64 t.c.f0, .int .i64 t.c.f1, .int .i64 t.c.f2, .bool t.c.f3, .bool t.c.f4, .slice A7 t.c.f5.length c7, .bool t.e, .string t.fr, .slice A10 t.ns.length c10, .slice A11 t.mo.length c11, .slice A12 t.ps.length c12, .slice A13 t.ad.length c13, .slice A14 t.el.length c14] 59) • R))))))) : kMd.K w (twoM [] b n) [.string b, .bool false, .slice none 0 0, .slice (some ⟨q + 2, 0, none⟩) 1 1] :=
  kMd_mk w (twoM [] b n) (A2 := none) (c2 := 0) (Nat.zero_le _) (c_empty _ _ _) (A3 := some ⟨q + 2, 0, none⟩) (c3 := 1) (Nat.le_refl _)
    (blk_C h.three.block (Reps.snoc (ps := []) (cs := []) (Reps.none _ _) (kDf_mk w ⟨xB n, tyK 11 n⟩ (tyK_mk w 11 n none none none none none none 0 0 0 0 0 0)) rfl) (show 1 ≤ 1000 by decide))
end
theorem list1_C {m : Md} {cs : List Value} {gx : Nat} {e : TypeId} {fr : Nat × Nat} (h : kMd.K w m cs) (hb : w.heap[gx]? = some (.cells cs.toArray e fr)) : kMd.C w (some ⟨gx, 0, none⟩) [m].length [m] :=
  blk_C hb (Reps.snoc (ps := []) (cs := []) (Reps.none _ _) h (kMd.K_len h)) (show 1 ≤ 1000 by decide)
theorem list2_C {m m' : Md} {cs cs' : List Value} {gx : Nat} {e : TypeId} {fr : Nat × Nat} (h : kMd.K w m cs) (h' : kMd.K w m' cs') (hb : w.heap[gx]? = some (.cells (cs ++ cs').toArray e fr)) : kMd.C w (some ⟨gx, 0, none⟩) [m, m'].length [m, m'] :=
  blk_C hb (Reps.snoc (Reps.snoc (ps := []) (cs := []) (Reps.none _ _) h (kMd.K_len h)) h' (kMd.K_len h')) (show 2 ≤ 1000 by decide)
/-- The cell of the second entry's name. -/
theorem en2_cell {x y : En} {xk : List Value} (h : Reps (kEn.K w) 18 [x, y] xk) : xk[22]? = some (.string y.t.n) := by
  have h1 := h.2 1 _ rfl
  obtain ⟨ts, e, hT⟩ := kEn_open h1
  obtain ⟨A7, c7, A10, c10, A11, c11, A12, c12, A13, c13, A14, c14, rfl, -⟩ := kTy_open hT
  have : ((xk.drop (1 * 18)).take 18)[4]? = some (.string y.t.n) := by rw [e]; rfl
  rwa [List.getElem?_take, if_pos (by omega), List.getElem?_drop] at this
set_option maxHeartbeats 16000000 in
set_option maxRecDepth 100000 in
theorem limp_calls (t : Ty) (cs : List Value) (a b n : ByteArray) (h : S w0 w R) (hK : kTy.K w0 t cs) (ho : oTy t) (oa : oS a) (ob : oS b) (on : oS n) :
    Calls Try.prog 8 #[.agg cs.toArray, .string a, .string b, .string n] w fun e w' => e = .returned (.bool true) ∧ S w0 w' R := by
  obtain ⟨A7, c7, A10, c10, A11, c11, A12, c12, A13, c13, A14, c14, rfl, -⟩ := kTy_open (id hK)
  have HK := Lib.hid (And.intro hK (And.intro ho (And.intro oa (And.intro ob on))))
  have H := Lib.hid (h.alloc (.cells [.int .i64 t.k, .string t.n, .int .i64 t.c.f0, .int .i64 t.c.f1, .int .i64 t.c.f2, .bool t.c.f3, .bool t.c.f4, .slice A7 t.c.f5.length c7, .bool t.e, .string t.fr, .slice A10 t.ns.length c10, .slice A11 t.mo.length c11, .slice A12 t.ps.length c12, .slice A13 t.ad.length c13, .slice A14 t.el.length c14].toArray 55))
  clear h hK ho oa ob on
  show Calls Try.prog 8 #[.agg #[.int .i64 t.k, .string t.n, .int .i64 t.c.f0, .int .i64 t.c.f1, .int .i64 t.c.f2, .bool t.c.f3, .bool t.c.f4, .slice A7 t.c.f5.length c7, .bool t.e, .string t.fr, .slice A10 t.ns.length c10, .slice A11 t.mo.length c11, .slice A12 t.ps.length c12, .slice A13 t.ad.length c13, .slice A14 t.el.length c14], .string a, .string b, .string n] w _
  go_enter Try.func8, Try.ntmps8
  go_upto_region 1 with fail
  go_wp2_with fail
  refine (awake_calls H.out).mono ?_
  rintro e w1 ⟨rfl, h1⟩
  generalize w.heap.size = p at *
  have H1 := Lib.hid h1
  clear h1 H
  go_wp2_with (refine held_load 55 _ rfl ?_)
  refine ⟨?_⟩
  refine wpList_load_cells rfl 55 _ rfl ⟨p, 0, none⟩ rfl [.int .i64 t.k, .string t.n, .int .i64 t.c.f0, .int .i64 t.c.f1, .int .i64 t.c.f2, .bool t.c.f3, .bool t.c.f4, .slice A7 t.c.f5.length c7, .bool t.e, .string t.fr, .slice A10 t.ns.length c10, .slice A11 t.mo.length c11, .slice A12 t.ps.length c12, .slice A13 t.ad.length c13, .slice A14 t.el.length c14] (blk_cells H1.out) _ Try.underlying55 rfl (by kernel_rfl) ?_
  go_wp2_with fail
  refine (few_calls t [.int .i64 t.k, .string t.n, .int .i64 t.c.f0, .int .i64 t.c.f1, .int .i64 t.c.f2, .bool t.c.f3, .bool t.c.f4, .slice A7 t.c.f5.length c7, .bool t.e, .string t.fr, .slice A10 t.ns.length c10, .slice A11 t.mo.length c11, .slice A12 t.ps.length c12, .slice A13 t.ad.length c13, .slice A14 t.el.length c14] 100 H1.out HK.out.1).mono ?_
  rintro e w2 ⟨bf, rfl, h2⟩
  have H2 := Lib.hid h2
  clear h2 H1
  cases e0 : bf with
  | false =>
    go_wp2
    go_ret
    exact ⟨rfl, H2.out.drop⟩
  | true =>
    clear e0
    by_cases s0 : 100 < a.size
    · have s0' := eq_true (show (100 : Int) < a.size by omega)
      go_wp2
      go_ret
      exact ⟨rfl, H2.out.drop⟩
    have s0' := eq_false (show ¬ (100 : Int) < a.size by omega)
    by_cases s1 : 100 < b.size
    · have s1' := eq_true (show (100 : Int) < b.size by omega)
      go_wp2
      go_ret
      exact ⟨rfl, H2.out.drop⟩
    have s1' := eq_false (show ¬ (100 : Int) < b.size by omega)
    by_cases s2 : 100 < n.size
    · have s2' := eq_true (show (100 : Int) < n.size by omega)
      go_wp2
      go_ret
      exact ⟨rfl, H2.out.drop⟩
    have s2' := eq_false (show ¬ (100 : Int) < n.size by omega)
    by_cases sab : (a.toList == b.toList) = true
    · go_wp2
      go_ret
      exact ⟨rfl, H2.out.drop⟩
    have hab : a.data.toList ≠ b.data.toList := fun h => sab (by rw [Lib.toList_data, Lib.toList_data, h]; simp)
    have sab' := Bool.eq_false_iff.2 sab
    clear sab
    go_wp2_with (refine held_load 55 _ rfl ?_)
    refine ⟨?_⟩
    refine wpList_load_cells_w (by rfl) 55 _ rfl ⟨p, 0, none⟩ rfl [.int .i64 t.k, .string t.n, .int .i64 t.c.f0, .int .i64 t.c.f1, .int .i64 t.c.f2, .bool t.c.f3, .bool t.c.f4, .slice A7 t.c.f5.length c7, .bool t.e, .string t.fr, .slice A10 t.ns.length c10, .slice A11 t.mo.length c11, .slice A12 t.ps.length c12, .slice A13 t.ad.length c13, .slice A14 t.el.length c14] (blk_cells H2.out) _ Try.underlying55 rfl (by kernel_rfl) ?_
    go_wp2_with fail
    refine (rtype_calls t [.int .i64 t.k, .string t.n, .int .i64 t.c.f0, .int .i64 t.c.f1, .int .i64 t.c.f2, .bool t.c.f3, .bool t.c.f4, .slice A7 t.c.f5.length c7, .bool t.e, .string t.fr, .slice A10 t.ns.length c10, .slice A11 t.mo.length c11, .slice A12 t.ps.length c12, .slice A13 t.ad.length c13, .slice A14 t.el.length c14] H2.out HK.out.1 HK.out.2.1).mono ?_
    rintro e w3 ⟨rfl, h3⟩
    have H3 := Lib.hid h3
    clear h3 H2
    cases ht : shapedB 40 t with
    | false =>
      go_wp2
      go_ret
      exact ⟨rfl, H3.out.drop⟩
    | true =>
      go_wp2_with fail
      refine (rname_calls a H3.out HK.out.2.2.1).mono ?_
      rintro e w4 ⟨rfl, h4⟩
      have H4 := Lib.hid h4
      clear h4 H3
      cases ha : nameB a with
      | false =>
        go_wp2
        go_ret
        exact ⟨rfl, H4.out.drop⟩
      | true =>
        go_wp2_with fail
        refine (rname_calls b H4.out HK.out.2.2.2.1).mono ?_
        rintro e w5 ⟨rfl, h5⟩
        have H5 := Lib.hid h5
        clear h5 H4
        cases hb : nameB b with
        | false =>
          go_wp2
          go_ret
          exact ⟨rfl, H5.out.drop⟩
        | true =>
          go_wp2_with fail
          refine (rname_calls n H5.out HK.out.2.2.2.2).mono ?_
          rintro e w6 ⟨rfl, h6⟩
          have H6 := Lib.hid h6
          clear h6 H5
          cases hn : nameB n with
          | false =>
            go_wp2
            go_ret
            exact ⟨rfl, H6.out.drop⟩
          | true =>
            have HN := Lib.hid (And.intro ha (And.intro hb (And.intro hn (And.intro hab ht))))
            have HS := Lib.hid (show n.size ≤ 100 by omega)
            have y1 : n.size ≤ 140737488351232 := by omega
            have y2 : a.size ≤ 140737488351232 := by omega
            have y3 : (a ++ (⟨#[46]⟩ : ByteArray)).size = a.size + 1 := ByteArray.size_append
            obtain ⟨d0, d1, d2, d3, d4, d5, d6, d7, d8, d9, d10, d11, d12, d13, d14⟩ := ty_cells H6.out
            clear ha hb hn hab ht s0 s1 s2 s0' s1' s2' sab'
            generalize hg : w6.heap.size = g
            have H7 := Lib.hid (alloc_at (n := g + 1) (alloc_at (n := g) H6.out.drop (.cells #[.string n, .int .i64 t.k, .string t.n, .int .i64 t.c.f0, .int .i64 t.c.f1, .int .i64 t.c.f2, .bool t.c.f3, .bool t.c.f4, .slice A7 t.c.f5.length c7, .bool t.e, .string t.fr, .slice A10 t.ns.length c10, .slice A11 t.mo.length c11, .slice A12 t.ps.length c12, .slice A13 t.ad.length c13, .slice A14 t.el.length c14] 59) hg.symm) (.cells #[.string ⟨#[]⟩, .bool false, .slice none 0 0, .slice none 0 0] 47) (by simp [hg]))
            go_wp2_with (refine held_store _ _ _ rfl ?_)
            refine ⟨?_⟩
            refine wpList_store_off rfl rfl [.string a, .bool false, .slice none 0 0, .slice (some ⟨g, 0, none⟩) 1 1] rfl rfl rfl (by kernel_rfl) (by simp [Value.oneCell']) H7.out (by simp) (new := #[.string a, .bool false, .slice none 0 0, .slice (some ⟨g, 0, none⟩) 1 1]) rfl ?_
            intro w8 h8
            have H8 := Lib.hid h8
            clear h8 H7 H6 d0 d1 d2 d3 d4 d5 d6 d7 d8 d9 d10 d11 d12 d13 d14 hg
            generalize hq : w8.heap.size = q
            have H9 := Lib.hid (alloc_at (n := q + 3) (alloc_at (n := q + 2) (alloc_at (n := q + 1) (alloc_at (n := q) H8.out (.cells #[.string n] 9) hq.symm) (.cells #[.slice (some ⟨q, 0, none⟩) 1 1, .string a] 69) (by simp [hq])) (.cells #[.string (n ++ ⟨#[120]⟩), .int .i64 11, .string n, .int .i64 0, .int .i64 0, .int .i64 0, .bool false, .bool false, .slice none 0 0, .bool false, .string ⟨#[]⟩, .slice none 0 0, .slice none 0 0, .slice none 0 0, .slice none 0 0, .slice none 0 0] 59) (by simp [hq])) (.cells #[.string ⟨#[]⟩, .bool false, .slice none 0 0, .slice none 0 0] 47) (by simp [hq]))
            go_wp2_with (refine held_store _ _ _ rfl ?_)
            refine ⟨?_⟩
            refine wpList_store_off rfl rfl [.string b, .bool false, .slice (some ⟨q + 1, 0, none⟩) 1 1, .slice (some ⟨q + 2, 0, none⟩) 1 1] rfl rfl rfl (by kernel_rfl) (by simp [Value.oneCell']) H9.out (by simp) (new := #[.string b, .bool false, .slice (some ⟨q + 1, 0, none⟩) 1 1, .slice (some ⟨q + 2, 0, none⟩) 1 1]) rfl ?_
            intro wa ha
            have HA := Lib.hid (five ha)
            clear ha H9 H8 hq
            have e0 := HA.out.cell 0 rfl
            have e1 := HA.out.cell 1 rfl
            have e2 := HA.out.cell 2 rfl
            have e3 := HA.out.cell 3 rfl
            have HB := Lib.hid (HA.out.alloc (.cells #[.string a, .bool false, .slice none 0 0, .slice (some ⟨g, 0, none⟩) 1 1] 47))
            go_wp2_with fail
            refine (resolve_at (some ⟨wa.heap.size, 0, none⟩) 1 [oneM a n t] HB.out (list1_C (one_K HB.out.drop HK.out.1) HB.out.block) (fun m hm => by rw [List.mem_singleton.1 hm]; exact one_o HK.out.2.2.1 HK.out.2.2.2.2 HK.out.2.1)).mono ?_
            rintro e wc ⟨A1, n1, c1, xk1, he, hn1, -, hc⟩
            subst he
            have HN1 := Lib.hid hn1
            have HC := Lib.hid hc.drop.drop.drop
            clear hn1 hc HB HA e0 e1 e2 e3
            have HP := Lib.hid (imp_plain HN.out.1 HN.out.2.1 HN.out.2.2.1 HN.out.2.2.2.1 HN.out.2.2.2.2)
            have e0 := HC.out.cell 0 rfl
            have e1 := HC.out.cell 1 rfl
            have e2 := HC.out.cell 2 rfl
            have e3 := HC.out.cell 3 rfl
            have f0 := HC.out.two.cell 0 rfl
            have f1 := HC.out.two.cell 1 rfl
            have f2 := HC.out.two.cell 2 rfl
            have f3 := HC.out.two.cell 3 rfl
            have HD := Lib.hid (HC.out.alloc (.cells #[.string a, .bool false, .slice none 0 0, .slice (some ⟨g, 0, none⟩) 1 1, .string b, .bool false, .slice (some ⟨q + 1, 0, none⟩) 1 1, .slice (some ⟨q + 2, 0, none⟩) 1 1] 47))
            go_wp2_with fail
            refine (resolve_at (some ⟨wc.heap.size, 0, none⟩) 2 [oneM a n t, twoM (imM a n) b n] HD.out (list2_C (one_K HD.out.drop HK.out.1) (two_K HD.out.drop) HD.out.block) (fun m hm => by
              rcases List.mem_cons.1 hm with rfl | hm
              · exact one_o HK.out.2.2.1 HK.out.2.2.2.2 HK.out.2.1
              · rw [List.mem_singleton.1 hm]; exact two_o HK.out.2.2.2.1 HS.out (im_o HK.out.2.2.1 HK.out.2.2.2.2))).mono ?_
            rintro e wd ⟨A2, n2, c2, xk2, he, hn2, hR2, hd⟩
            rw [HP.out.1] at he
            subst he
            have HR2 := Lib.hid (And.intro hn2 hR2)
            have HE := Lib.hid hd.two.drop.two.drop
            clear hd HD HC e0 e1 e2 e3 f0 f1 f2 f3 hn2 hR2
            have f0 := HE.out.three.cell 0 rfl
            have f1 := HE.out.three.cell 1 rfl
            have f2 := HE.out.three.cell 2 rfl
            have f3 := HE.out.three.cell 3 rfl
            have HF := Lib.hid (HE.out.alloc (.cells #[.string b, .bool false, .slice (some ⟨q + 1, 0, none⟩) 1 1, .slice (some ⟨q + 2, 0, none⟩) 1 1] 47))
            go_wp2_with fail
            refine (resolve_at (some ⟨wd.heap.size, 0, none⟩) 1 [twoM (imM a n) b n] HF.out (list1_C (two_K HF.out.drop.drop) HF.out.block) (fun m hm => by rw [List.mem_singleton.1 hm]; exact two_o HK.out.2.2.2.1 HS.out (im_o HK.out.2.2.1 HK.out.2.2.2.2))).mono ?_
            rintro e we ⟨A3, n3, c3, xk3, he, -, -, hf⟩
            rw [res_two HN.out.1 HN.out.2.1 HN.out.2.2.1 HN.out.2.2.2.1 HN.out.2.2.2.2] at he
            subst he
            have HG := Lib.hid hf.drop.drop.drop.three
            clear hf HF HE f0 f1 f2 f3
            have f2 := HG.out.cell 2 rfl
            go_wp2_with (refine held_store _ _ _ rfl ?_)
            refine ⟨?_⟩
            refine wpList_store_off rfl rfl [.slice none 0 0] rfl rfl rfl (by kernel_rfl) (by simp [Value.oneCell']) HG.out (by simp) (new := #[.string b, .bool false, .slice none 0 0, .slice (some ⟨q + 2, 0, none⟩) 1 1]) rfl ?_
            intro wf hf
            have HH := Lib.hid hf.back3
            clear hf HG f2
            have e0 := HH.out.two.cell 0 rfl
            have e1 := HH.out.two.cell 1 rfl
            have e2 := HH.out.two.cell 2 rfl
            have e3 := HH.out.two.cell 3 rfl
            have f0 := HH.out.three.cell 0 rfl
            have f1 := HH.out.three.cell 1 rfl
            have f2 := HH.out.three.cell 2 rfl
            have f3 := HH.out.three.cell 3 rfl
            have HI := Lib.hid (HH.out.alloc (.cells #[.string a, .bool false, .slice none 0 0, .slice (some ⟨g, 0, none⟩) 1 1, .string b, .bool false, .slice none 0 0, .slice (some ⟨q + 2, 0, none⟩) 1 1] 47))
            go_wp2_with fail
            refine (resolve_at (some ⟨wf.heap.size, 0, none⟩) 2 [oneM a n t, twoM [] b n] HI.out (list2_C (one_K0 HI.out.drop.drop HK.out.1) (two_K0 HI.out.drop.drop) HI.out.block) (fun m hm => by
              rcases List.mem_cons.1 hm with rfl | hm
              · exact one_o HK.out.2.2.1 HK.out.2.2.2.2 HK.out.2.1
              · rw [List.mem_singleton.1 hm]; exact two_o HK.out.2.2.2.1 HS.out ⟨Nat.zero_le _, fun y hy => by cases hy⟩)).mono ?_
            rintro e wg ⟨A4, n4, c4, xk4, he, -, -, hg⟩
            rw [res_without HN.out.1 HN.out.2.1 HN.out.2.2.1 HN.out.2.2.2.1 HN.out.2.2.2.2] at he
            subst he
            have HJ := Lib.hid hg.drop.drop.drop
            clear hg HI HH e0 e1 e2 e3 f0 f1 f2 f3
            by_cases z : (resP [oneM a n t]).1 = 0
            · obtain ⟨hl, t', h2⟩ := HP.out.2 z
              have hR := HR2.out
              rw [h2] at hR
              obtain ⟨hn2, hR2⟩ := hR
              have hx := en2_cell hR2
              rw [z]
              obtain rfl : n1 = 1 := HN1.out.trans hl
              obtain rfl : n2 = 2 := hn2
              rcases HJ.out.rowForm with ⟨eB, hz, -⟩ | ⟨gl, cap1, -, -, -, eB, -⟩
              · cases hz
              cases eB
              have u22 : wg.cell? ⟨gl, 22, none⟩ = some (.string (dotB a n)) := by
                obtain ⟨-, A, c, e, -, -, hc⟩ := HJ.out.reads
                cases e
                obtain ⟨ad, e', h⟩ := hc 22 _ hx
                cases e'
                rwa [Sep.add_plain] at h
              have y : ((dotB a n).toList == (a ++ ⟨#[46]⟩ ++ n).toList) = true := beq_self_eq_true _
              unfold dotB at u22 y
              clear hl h2 hx hR2
              go_wp2
              go_ret
              exact ⟨rfl, HJ.out.drop.drop.drop.drop.drop.drop.drop⟩
            · have z1 : ((resP [oneM a n t]).1 != 0) = true := bne_iff_ne.2 z
              generalize (resP [oneM a n t]).1 = r1 at *
              go_wp2
              go_ret
              exact ⟨by simp, HJ.out.drop.drop.drop.drop.drop.drop.drop⟩
theorem law_imports (t : Ty) (cs : List Value) (a b n : ByteArray) (W : World) (hK : kTy.K W t cs) (ho : oTy t) (oa : oS a) (ob : oS b) (on : oS n) :
    Calls Try.prog 8 #[.agg cs.toArray, .string a, .string b, .string n] W fun e w' => e = .returned (.bool true) ∧ Below W.heap.size W w' :=
  (limp_calls (w0 := W) (R := emp) t cs a b n (St.start W) hK ho oa ob on).mono fun _ _ ⟨h1, h2⟩ => ⟨h1, h2.below⟩
set_option maxRecDepth 100000 in
/-- A parameter that is a type. -/
theorem open_tyP {H : Type} {enc : TypeId × Value → H} {W : World} {base base' : Nat} {spare : Nat → Bool} {held : Bool} {v : Value} {d : DataW H} {p : List MemPlace}
    (hv : Value.okWide Try.prog W .any base' 55 v) (h : DataW.Trod enc Try.prog W base spare held 55 v d p) (hw : (d.weights Try.prog 55).all (· ≤ reachBytes) = true) : ∃ (t : Ty) (cs : List Value), v = .agg cs.toArray ∧ kTy.K W t cs ∧ oTy t := by
  obtain ⟨cs, rfl, hsz⟩ := okWide_struct Try.underlying55 hv
  obtain ⟨fuel, hf⟩ := h
  have hf' : DataW.trod enc Try.prog W base spare held fuel 55 cs.toList = some (d, p) := hf
  have hl : cs.toList.length = 15 := by rw [Array.length_toList, hsz]; kernel_rfl
  obtain ⟨t, hK, ht⟩ := open_ty fuel _ _ hl hf' hw
  exact ⟨t, cs.toList, by rw [Array.toArray_toList], hK, ht⟩
end Go.Proofs.Ytbjddomocggjmaa.Sc
