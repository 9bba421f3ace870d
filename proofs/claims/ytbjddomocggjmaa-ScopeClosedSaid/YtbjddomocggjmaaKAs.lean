/- found of the law: walked, where each name is found. -/
import Derived.Deep.Cut
import Derived.Test.YtbjddomocggjmaaKZ
import Derived.Test.YtbjddomocggjmaaKAp
import Derived.Test.YtbjddomocggjmaaKAr
section
namespace Go.Proofs.Ytbjddomocggjmaa.Sc
open Go.RowKit Go.ChangeShapes Go.WideShapes Go.Proofs.Ytbjddomocggjmaa.Sep
open Go.Proofs.YtbjddomocggjmaaW.PrintWords
variable {B : Nat} {w0 w : World} {R : HP}
theorem ty_cellsC {g : Nat} {e : TypeId} {t : Ty} {cs : List Value} {A7 A10 A11 A12 A13 A14 : Option Addr} {c7 c10 c11 c12 c13 c14 : Nat} (hc : cs = [.int .i64 t.k, .string t.n, .int .i64 t.c.f0, .int .i64 t.c.f1, .int .i64 t.c.f2, .bool t.c.f3, .bool t.c.f4, .slice A7 t.c.f5.length c7, .bool t.e, .string t.fr, .slice A10 t.ns.length c10, .slice A11 t.mo.length c11, .slice A12 t.ps.length c12, .slice A13 t.ad.length c13, .slice A14 t.el.length c14]) (h : St B w0 w (Blk g (.cells cs.toArray e) • R)) : w.cell? ⟨g, 0, none⟩ = some (.int .i64 t.k) ∧ w.cell? ⟨g, 1, none⟩ = some (.string t.n) ∧ w.cell? ⟨g, 2, none⟩ = some (.int .i64 t.c.f0) ∧ w.cell? ⟨g, 3, none⟩ = some (.int .i64 t.c.f1) ∧ w.cell? ⟨g, 4, none⟩ = some (.int .i64 t.c.f2) ∧ w.cell? ⟨g, 5, none⟩ = some (.bool t.c.f3) ∧ w.cell? ⟨g, 6, none⟩ = some (.bool t.c.f4) ∧ w.cell? ⟨g, 7, none⟩ = some (.slice A7 t.c.f5.length c7) ∧ w.cell? ⟨g, 8, none⟩ = some (.bool t.e) ∧ w.cell? ⟨g, 9, none⟩ = some (.string t.fr) ∧ w.cell? ⟨g, 10, none⟩ = some (.slice A10 t.ns.length c10) ∧ w.cell? ⟨g, 11, none⟩ = some (.slice A11 t.mo.length c11) ∧ w.cell? ⟨g, 12, none⟩ = some (.slice A12 t.ps.length c12) ∧ w.cell? ⟨g, 13, none⟩ = some (.slice A13 t.ad.length c13) ∧ w.cell? ⟨g, 14, none⟩ = some (.slice A14 t.el.length c14) := by
  subst hc
  exact ty_cells h
section
variable {b : Ty → Bool} {t : Ty} (hc : conB 40 t.c = true)
include hc
end
end Go.Proofs.Ytbjddomocggjmaa.Sc
end
section
namespace Go.Proofs.Ytbjddomocggjmaa.Sc
open Go.RowKit Go.ChangeShapes Go.WideShapes Go.Proofs.Ytbjddomocggjmaa.Sep
open Go.Proofs.YtbjddomocggjmaaW.PrintWords
variable {B : Nat} {w0 w : World} {R : HP}
def refsP (P : ByteArray → Prop) : Nat → Ty → Prop
  | 0, _ => False
  | n + 1, t => (t.k = 11 → P t.n) ∧ (t.k ≠ 11 → (∀ p ∈ t.ps, refsP P n p.t) ∧ (∀ p ∈ t.ad, refsP P n p.t) ∧ ∀ x ∈ t.el, refsP P n x)
def hasN (l : List En) (nm : ByteArray) : Prop := ∃ x ∈ l, nmB nm x = true
theorem place_has {l : List En} {nm : ByteArray} {i : Int} (h : Place (nmB nm) l i) (hh : hasN l nm) : 0 ≤ i := by
  rcases h with ⟨k, x, rfl, hk, hp, hb⟩ | ⟨rfl, hb⟩
  · omega
  · obtain ⟨x, hx, e⟩ := hh
    rw [hb x hx] at e
    cases e
set_option maxHeartbeats 16000000 in
set_option maxRecDepth 100000 in
theorem lfound_at (A : Option Addr) (c : Nat) (l : List En) (hC : kEn.C w0 A l.length l) (ho : ∀ x ∈ l, oS x.m ∧ oS x.n) (n : Nat) : ∀ (t : Ty), refsP (hasN l) n t → ∀ (W : World) (Q : HP) (cs : List Value), S w0 W Q → kTy.K w0 t cs →
    Calls Try.prog 20 #[.slice A l.length c, .agg cs.toArray] W fun e w' => e = .returned (.bool true) ∧ S w0 w' Q := by
  induction n with
  | zero => intro t h; exact h.elim
  | succ n ih =>
    intro t hF W Q cs h hK
    obtain ⟨A7, c7, A10, c10, A11, c11, A12, c12, A13, c13, A14, c14, e1, -, g7, -, g10, -, g11, -, g12, -, g13, -, g14⟩ := kTy_open hK
    generalize hg : W.heap.size = g
    have H := Lib.hid (alloc_at (n := g) h (.cells cs.toArray 55) hg.symm)
    have HC : Hid (cs = [.int .i64 t.k, .string t.n, .int .i64 t.c.f0, .int .i64 t.c.f1, .int .i64 t.c.f2, .bool t.c.f3, .bool t.c.f4, .slice A7 t.c.f5.length c7, .bool t.e, .string t.fr, .slice A10 t.ns.length c10, .slice A11 t.mo.length c11, .slice A12 t.ps.length c12, .slice A13 t.ad.length c13, .slice A14 t.el.length c14]) := Lib.hid e1
    have HA := Lib.hid (And.intro hC ho)
    have HG := Lib.hid (And.intro g12 (And.intro g13 g14))
    have hl1 : t.ps.length ≤ 9223372036854775807 := g12.2.1
    have hl2 : t.ad.length ≤ 9223372036854775807 := g13.2.1
    have hl3 : t.el.length ≤ 9223372036854775807 := g14.2.1
    obtain ⟨b0, b1, b2, b3, b4, b5, b6, b7, b8, b9, b10, b11, b12, b13, b14⟩ := ty_cellsC HC.out H.out
    clear b2 b3 b4 b5 b6 b7 b8 b9 b10 b11 b12 b13 b14
    by_cases k11 : t.k = 11
    · have HN := Lib.hid (hF.1 k11)
      have y0 : (t.k == 11) = true := beq_iff_eq.2 k11
      clear h hK e1 g7 g10 g11 g12 g13 g14 ih hC ho hF k11
      go_enter Try.func20, Try.ntmps20
      go_wp2_with fail
      refine (find_calls A c l t.n H.out HA.out.1 HA.out.2).mono ?_
      rintro e w1 ⟨i, rfl, h1, hp⟩
      have H1 := Lib.hid h1
      have z0 : 0 ≤ i := place_has hp HN.out
      have z1 := eq_true z0
      clear h1 H hp b0 b1
      go_wp2
      go_ret
      exact ⟨by simp, H1.out.drop⟩
    · have HI := Lib.hid (And.intro ih (hF.2 k11))
      have y0 : (t.k == 11) = false := beq_eq_false_iff_ne.2 k11
      clear h hK e1 g7 g10 g11 g12 g13 g14 ih hC ho hF k11
      go_enter Try.func20, Try.ntmps20
      go_wp2
      clear b0 b1 y0
      go_loopw [5] (fun v wr => ∃ x : Int, 0 ≤ x ∧ x ≤ t.ps.length ∧ v = .int .i64 x ∧ Hid (S w0 wr (Blk g (.cells cs.toArray 55) • Q))) (fun v _ => t.ps.length - (intOf v).toNat)
      case atStart => exact ⟨0, Int.le_refl _, by omega, rfl, H⟩
      case round =>
        clear H
        obtain ⟨x, hx0, hx1, rfl, HR⟩ := hrel
        obtain ⟨b0, b1, b2, b3, b4, b5, b6, b7, b8, b9, b10, b11, b12, b13, b14⟩ := ty_cellsC HC.out HR.out
        clear b0 b1 b2 b3 b4 b5 b6 b7 b8 b9 b10 b11 b13 b14
        by_cases hlt : x < t.ps.length
        · obtain ⟨ad, cs', eA, hcl0, hK, hcell0⟩ := Kd.C_get HG.out.1 zPt x hx0 hlt
          cases eA
          have hcell : ∀ (j : Nat) (u : Value), cs'[j]? = some u → w0.cell? (ad.add (x.toNat * 18 + j)) = some u := hcell0
          have hmem := List.mem_of_getElem? (getD_mem t.ps zPt x hx0 hlt)
          generalize t.ps.getD x.toNat zPt = r at *
          obtain ⟨ts, D, q, hP, -, -, -⟩ := pt_more (show kPt.K w0 r cs' from hK)
          have HK := Lib.hid (And.intro hP.kt hP.tlen)
          have HF : Hid (∀ (j : Nat) (v : Value), ts[j]? = some v → wr.cell? ((⟨(ad.add (x.toNat * 18)).block, (ad.add (x.toNat * 18)).off + 1, none⟩ : Addr).add j) = some v) := Lib.hid fun j v hv => by
            have := pw_cell_below HR.out.below (hcell (1 + j) v (hP.typ j v hv))
            rw [add_field ad _ _ (by omega), ← Nat.add_assoc] at this
            rw [WideShapes.add_plain]; exact this
          have HZ := Lib.hid (HI.out.2.1 r hmem)
          have p126 := eq_true hx0
          have q126 : (x < (t.ps.length : Int)) = True := eq_true hlt
          clear hcell hcell0 hcl0 hK hmem hP
          go_wp2_with (refine held_load 55 _ rfl ?_)
          refine ⟨?_⟩
          refine wpList_load_cells rfl 55 _ rfl _ rfl ts HF.out _ Try.underlying55 rfl (by rw [HK.out.2]; kernel_rfl) ?_
          go_wp2_with fail
          refine (HI.out.1 r.t HZ.out _ _ ts HR.out HK.out.1).mono ?_
          rintro e w3 ⟨rfl, h3⟩
          have HD := Lib.hid h3
          clear h3 HR b12
          go_wp2
          exact ⟨⟨x + 1, by omega, by omega, by go_num, HD⟩, by simp only [intOf]; omega⟩
        · have hlt' : (x < (t.ps.length : Int)) = False := eq_false hlt
          go_wp2
          clear b12 hlt hlt' hx0 hx1
          have H := HR
          clear HR
          go_loopw [6] (fun v wr => ∃ x : Int, 0 ≤ x ∧ x ≤ t.ad.length ∧ v = .int .i64 x ∧ Hid (S w0 wr (Blk g (.cells cs.toArray 55) • Q))) (fun v _ => t.ad.length - (intOf v).toNat)
          case atStart => exact ⟨0, Int.le_refl _, by omega, rfl, H⟩
          case round =>
            clear H
            obtain ⟨x, hx0, hx1, rfl, HR⟩ := hrel
            obtain ⟨b0, b1, b2, b3, b4, b5, b6, b7, b8, b9, b10, b11, b12, b13, b14⟩ := ty_cellsC HC.out HR.out
            clear b0 b1 b2 b3 b4 b5 b6 b7 b8 b9 b10 b11 b12 b14
            by_cases hlt : x < t.ad.length
            · obtain ⟨ad, cs', eA, hcl0, hK, hcell0⟩ := Kd.C_get HG.out.2.1 zPt x hx0 hlt
              cases eA
              have hcell : ∀ (j : Nat) (u : Value), cs'[j]? = some u → w0.cell? (ad.add (x.toNat * 18 + j)) = some u := hcell0
              have hmem := List.mem_of_getElem? (getD_mem t.ad zPt x hx0 hlt)
              generalize t.ad.getD x.toNat zPt = r at *
              obtain ⟨ts, D, q, hP, -, -, -⟩ := pt_more (show kPt.K w0 r cs' from hK)
              have HK := Lib.hid (And.intro hP.kt hP.tlen)
              have HF : Hid (∀ (j : Nat) (v : Value), ts[j]? = some v → wr.cell? ((⟨(ad.add (x.toNat * 18)).block, (ad.add (x.toNat * 18)).off + 1, none⟩ : Addr).add j) = some v) := Lib.hid fun j v hv => by
                have := pw_cell_below HR.out.below (hcell (1 + j) v (hP.typ j v hv))
                rw [add_field ad _ _ (by omega), ← Nat.add_assoc] at this
                rw [WideShapes.add_plain]; exact this
              have HZ := Lib.hid (HI.out.2.2.1 r hmem)
              have p126 := eq_true hx0
              have q126 : (x < (t.ad.length : Int)) = True := eq_true hlt
              clear hcell hcell0 hcl0 hK hmem hP
              go_wp2_with (refine held_load 55 _ rfl ?_)
              refine ⟨?_⟩
              refine wpList_load_cells rfl 55 _ rfl _ rfl ts HF.out _ Try.underlying55 rfl (by rw [HK.out.2]; kernel_rfl) ?_
              go_wp2_with fail
              refine (HI.out.1 r.t HZ.out _ _ ts HR.out HK.out.1).mono ?_
              rintro e w3 ⟨rfl, h3⟩
              have HD := Lib.hid h3
              clear h3 HR b13
              go_wp2
              exact ⟨⟨x + 1, by omega, by omega, by go_num, HD⟩, by simp only [intOf]; omega⟩
            · have hlt' : (x < (t.ad.length : Int)) = False := eq_false hlt
              go_wp2
              clear b13 hlt hlt' hx0 hx1
              have H := HR
              clear HR
              go_loopw [7] (fun v wr => ∃ x : Int, 0 ≤ x ∧ x ≤ t.el.length ∧ v = .int .i64 x ∧ Hid (S w0 wr (Blk g (.cells cs.toArray 55) • Q))) (fun v _ => t.el.length - (intOf v).toNat)
              case atStart => exact ⟨0, Int.le_refl _, by omega, rfl, H⟩
              case round =>
                clear H
                obtain ⟨x, hx0, hx1, rfl, HR⟩ := hrel
                obtain ⟨b0, b1, b2, b3, b4, b5, b6, b7, b8, b9, b10, b11, b12, b13, b14⟩ := ty_cellsC HC.out HR.out
                clear b0 b1 b2 b3 b4 b5 b6 b7 b8 b9 b10 b11 b12 b13
                by_cases hlt : x < t.el.length
                · obtain ⟨ad, cs', eA, hcl0, hK, hcell0⟩ := Kd.C_get HG.out.2.2 zTy x hx0 hlt
                  cases eA
                  have hcell : ∀ (j : Nat) (u : Value), cs'[j]? = some u → w0.cell? (ad.add (x.toNat * 15 + j)) = some u := hcell0
                  have hmem := List.mem_of_getElem? (getD_mem t.el zTy x hx0 hlt)
                  generalize t.el.getD x.toNat zTy = r at *
                  have HK : Hid (kTy.K w0 r cs' ∧ cs'.length = 15) := Lib.hid (And.intro hK hcl0)
                  have HF : Hid (∀ (j : Nat) (v : Value), cs'[j]? = some v → wr.cell? ((ad.add (x.toNat * 15)).add j) = some v) := Lib.hid (elem_cells HR.out.below hcell0)
                  have HZ := Lib.hid (HI.out.2.2.2 r hmem)
                  have p126 := eq_true hx0
                  have q126 : (x < (t.el.length : Int)) = True := eq_true hlt
                  clear hcell hcell0 hcl0 hK hmem
                  go_wp2_with (refine held_load 55 _ rfl ?_)
                  refine ⟨?_⟩
                  refine wpList_load_cells rfl 55 _ rfl _ rfl cs' HF.out _ Try.underlying55 rfl (by rw [HK.out.2]; kernel_rfl) ?_
                  go_wp2_with fail
                  refine (HI.out.1 r HZ.out _ _ cs' HR.out HK.out.1).mono ?_
                  rintro e w3 ⟨rfl, h3⟩
                  have HD := Lib.hid h3
                  clear h3 HR b14
                  go_wp2
                  exact ⟨⟨x + 1, by omega, by omega, by go_num, HD⟩, by simp only [intOf]; omega⟩
                · have hlt' : (x < (t.el.length : Int)) = False := eq_false hlt
                  go_wp2
                  go_ret
                  exact ⟨rfl, HR.out.drop⟩
end Go.Proofs.Ytbjddomocggjmaa.Sc
end
