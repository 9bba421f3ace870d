/- The law ScopeClosed: walked. -/
import Derived.Deep.Cut
import Derived.Test.YtbjddomocggjmaaKAm
import Derived.Test.YtbjddomocggjmaaKAs
import Derived.Test.YtbjddomocggjmaaKAt
import Derived.Test.YtbjddomocggjmaaKAu
import Derived.Test.YtbjddomocggjmaaKAx
namespace Go.Proofs.Ytbjddomocggjmaa.Sc
open Go.RowKit Go.ChangeShapes Go.WideShapes Go.Proofs.Ytbjddomocggjmaa.Sep
open Go.Proofs.YtbjddomocggjmaaW.PrintWords
variable {B : Nat} {w0 w : World} {R : HP}
theorem find_n (A : Option Addr) (c : Nat) (l : List En) (nm : ByteArray) {n : Nat} (hn : n = l.length) (hC : kEn.C w0 A n l) (ho : ∀ x ∈ l, oS x.m ∧ oS x.n ∧ Dp 40 x.t) (h : S w0 w R) :
    Calls Try.prog 21 #[.slice A n c, .string nm] w fun e w' => ∃ i : Int, e = .returned (.int .i64 i) ∧ S w0 w' R ∧ Place (nmB nm) l i := by
  subst hn
  exact find_calls A c l nm h hC fun x hx => ⟨(ho x hx).1, (ho x hx).2.1⟩
theorem lfound_n (A : Option Addr) (c : Nat) (l : List En) {m : Nat} (hn : m = l.length) (hC : kEn.C w0 A m l) (ho : ∀ x ∈ l, oS x.m ∧ oS x.n ∧ Dp 40 x.t) (n : Nat) (t : Ty) (ht : refsP (hasN l) n t) (W : World) (Q : HP) (cs : List Value) (h : S w0 W Q) (hK : kTy.K w0 t cs) :
    Calls Try.prog 20 #[.slice A m c, .agg cs.toArray] W fun e w' => e = .returned (.bool true) ∧ S w0 w' Q := by
  subst hn
  exact lfound_at A c l hC (fun x hx => ⟨(ho x hx).1, (ho x hx).2.1⟩) n t ht W Q cs h hK
theorem finite_n (A : Option Addr) (c : Nat) (l : List En) {m : Nat} (hn : m = l.length) (hC : kEn.C w0 A m l) (ho : ∀ x ∈ l, oS x.m ∧ oS x.n ∧ Dp 40 x.t) (hl : l.length ≤ 65536) (h : S w0 w R) :
    Calls Try.prog 23 #[.slice A m c] w fun e w' => e = .returned (.bool (finB l)) ∧ S w0 w' R := by
  subst hn
  exact finite_calls A c l h hC ho (by omega)
theorem resolve_n {B : Nat} (A : Option Addr) (c : Nat) (l : List Md) {m : Nat} (hm : m = l.length) (h : St B w0 w R) (hC : kMd.C w A m l) (ho : ∀ m ∈ l, oMd m) :
    Calls Try.prog 19 #[.slice A m c] w fun e w' => ∃ A' n' c' xk, e = .returned (.tuple #[.slice A' n' c', .int .i64 (resP l).1]) ∧ n' = (resP l).2.length ∧ Reps (kEn.K w') 18 (resP l).2 xk ∧
      St B w0 w' (RowV 57 18 (.slice A' n' c') n' xk • (Vw w w.heap.size (fun W => Reps (kEn.K W) 18 (resP l).2 xk) • R)) := by
  subst hm
  exact resolve_at A c l h hC ho
/-- One element of a row, as a row. -/
theorem c_one {α : Type} {d : Kd α} {W : World} {ad : Addr} {n : Nat} {l : List α} (h : d.C W (some ad) n l) {i : Nat} {x : α} (hi : l[i]? = some x) : d.C W (some (ad.add (i * d.sz))) [x].length [x] := by
  obtain ⟨hn, -, hc⟩ := h
  have hlt := (List.getElem?_eq_some_iff.1 hi).1
  obtain ⟨ad', e, hp⟩ := hc (by omega)
  cases e
  obtain ⟨cs, h1, h2, h3⟩ := hp i x hi
  refine ⟨rfl, by simp, fun _ => ⟨_, rfl, fun j p hj => ?_⟩⟩
  match j, hj with
  | 0, hj =>
    cases hj
    refine ⟨cs, h1, h2, fun i' u hu => ?_⟩
    rw [Nat.zero_mul, Nat.zero_add, add_add1]
    exact h3 i' u hu
theorem c_at {α : Type} {d : Kd α} {W : World} {A : Option Addr} {n : Nat} {l : List α} (h : d.C W A n l) {i : Nat} {x : α} (hi : l[i]? = some x) : ∃ ad cs, A = some ad ∧ cs.length = d.sz ∧ d.K W x cs ∧ ∀ (j : Nat) (u : Value), cs[j]? = some u → W.cell? (ad.add (i * d.sz + j)) = some u := by
  obtain ⟨hn, -, hc⟩ := h
  have hlt := (List.getElem?_eq_some_iff.1 hi).1
  obtain ⟨ad, rfl, hp⟩ := hc (by omega)
  obtain ⟨cs, h1, h2, h3⟩ := hp i x hi
  exact ⟨ad, cs, rfl, h1, h2, h3⟩
theorem en_one {W : World} {ad : Addr} {n : Nat} {l : List En} (h : kEn.C W (some ad) n l) {i : Nat} {x : En} (hi : l[i]? = some x) : kEn.C W (some (ad.add (i * 18))) 1 [x] := c_one h hi
theorem lsame_one (A : Option Addr) (c : Nat) (A' : Option Addr) (c' : Nat) (x : En) (h : S w0 w R) (hC : kEn.C w0 A 1 [x]) (hC' : kEn.C w0 A' 1 [x]) :
    Calls Try.prog 22 #[.slice A 1 c, .slice A' 1 c'] w fun e w' => e = .returned (.bool true) ∧ S w0 w' R :=
  lsame_calls A c A' c' [x] h hC hC'
set_option maxHeartbeats 16000000 in
set_option maxRecDepth 100000 in
theorem lclosed_calls (A : Option Addr) (c : Nat) (l : List Md) (hb : l.length * 72 ≤ M) (h : S w0 w R) (hC : kMd.C w0 A l.length l) (ho : ∀ m ∈ l, oMd m) :
    Calls Try.prog 7 #[.slice A l.length c] w fun e w' => e = .returned (.bool true) ∧ S w0 w' R := by
  have hl : l.length ≤ 9223372036854775807 := hC.2.1
  have HA := Lib.hid (And.intro hC (And.intro ho hb))
  have H := Lib.hid h
  clear h hC ho hb
  go_enter Try.func7, Try.ntmps7
  go_wp2_with fail
  refine (awake_calls H.out).mono ?_
  rintro e w1 ⟨rfl, h1⟩
  have H1 := Lib.hid h1
  clear h1 H
  go_wp2_with fail
  refine (lfew_calls A c l 60 (by decide) (by decide) H1.out HA.out.1 HA.out.2.1).mono ?_
  rintro e w2 ⟨b, rfl, h2, -⟩
  have H2 := Lib.hid h2
  clear h2 H1
  cases b with
  | false =>
    go_wp2
    go_ret
    exact ⟨rfl, H2.out⟩
  | true =>
    have HM := Lib.hid (Kd.C_below HA.out.1 H2.out.below)
    go_wp2_with fail
    refine (resolve_calls (w0 := w2) (R := emp) A c l (St.start w2) HM.out HA.out.2.1).mono ?_
    rintro e w3 ⟨A1, n1, c1, xk1, he, hn1, h3⟩
    subst he
    have H3 : Hid (S w2 w3 (RowV 47 4 (.slice none 0 0) 0 [] • (RowV 57 18 (.slice A1 n1 c1) n1 xk1 • (Vw w2 w2.heap.size (fun W => Reps (kEn.K W) 18 (resP l).2 xk1) • emp)))) := Lib.hid (h3.nil _ _)
    have HN1 := Lib.hid hn1
    clear h3 hn1
    have HZ := Lib.hid (rfl : (resP l).1 = (resP l).1)
    generalize hr1 : (resP l).1 = r1
    have HR1 := Lib.hid hr1
    clear hr1 HZ
    go_wp2
    go_loopw [6, 7] (fun vo v wr => ∃ (va : Value) (x : Int) (xs : List Value), va = vo ∧ -1 ≤ x ∧ x < l.length ∧ v = .int .i64 x ∧ Hid (S w2 wr (RowV 47 4 va ((l.length : Int) - 1 - x).toNat xs • (RowV 57 18 (.slice A1 n1 c1) n1 xk1 • (Vw w2 w2.heap.size (fun W => Reps (kEn.K W) 18 (resP l).2 xk1) • emp)))) ∧ Hid (Reps (kMd.K w2) 4 (l.reverse.take ((l.length : Int) - 1 - x).toNat) xs)) (fun _ v _ => ((intOf v) + 1).toNat)
    case atStart => exact ⟨_, (l.length : Int) - 1, [], rfl, by omega, by omega, by go_num, Lib.hid (by rw [show ((l.length : Int) - 1 - ((l.length : Int) - 1)).toNat = 0 by omega]; exact H3.out), Lib.hid (by rw [show ((l.length : Int) - 1 - ((l.length : Int) - 1)).toNat = 0 by omega]; exact Reps.none _ _)⟩
    case round =>
      clear H3
      obtain ⟨va, x, xs, rfl, hx0, hx1, rfl, HR, HP⟩ := hrel
      by_cases hge : 0 ≤ x
      · obtain ⟨ad, cs, eA, hcl0, hK, hcell0⟩ := Kd.C_get HM.out zMd x hge hx1
        cases eA
        have hcell : ∀ (j : Nat) (u : Value), cs[j]? = some u → w2.cell? (ad.add (x.toNat * 4 + j)) = some u := hcell0
        have HG := Lib.hid (getD_mem l zMd x hge hx1)
        generalize l.getD x.toNat zMd = r at *
        obtain ⟨A2, c2, A3, c3, rfl, -⟩ := kMd_open (show kMd.K w2 r cs from hK)
        have HK := Lib.hid (show kMd.K w2 r [.string r.n, .bool r.au, .slice A2 r.im.length c2, .slice A3 r.df.length c3] from hK)
        have HCl := Lib.hid hcell
        have p126 := eq_true hge
        have q126 : (x < (l.length : Int)) = True := eq_true hx1
        have e1 : ((l.length : Int) - 1 - (x - 1)).toNat = ((l.length : Int) - 1 - x).toNat + 1 := by omega
        have e2 : l.reverse.take (((l.length : Int) - 1 - x).toNat + 1) = l.reverse.take ((l.length : Int) - 1 - x).toNat ++ [r] := by
          rw [List.take_add_one, List.getElem?_reverse (by omega), show l.length - 1 - ((l.length : Int) - 1 - x).toNat = x.toNat by omega, HG.out]
          rfl
        have HE := Lib.hid (And.intro e1 e2)
        have hbd : ((l.length : Int) - 1 - x).toNat + 1 ≤ l.length := by omega
        have HBd := Lib.hid hbd
        clear hcell hcell0 hcl0 hK e1 e2 hbd
        generalize ((l.length : Int) - 1 - x).toNat = kk at *
        go_wp2_with (refine held_load 47 _ rfl ?_)
        refine ⟨?_⟩
        refine wpList_load_cells rfl 47 _ rfl _ rfl [.string r.n, .bool r.au, .slice A2 r.im.length c2, .slice A3 r.df.length c3] (elem_cells HR.out.below HCl.out) _ Try.underlying47 rfl (by kernel_rfl) ?_
        go_wp2_with (at_builtin; refine Held.out ?_)
        refine ⟨?_⟩
        refine wpList_append_blk (by rfl) _ _ Try.underlying39 info_mds rfl (by decide) rfl va kk xs rfl (cs := [.string r.n, .bool r.au, .slice A2 r.im.length c2, .slice A3 r.df.length c3]) (HR.out.alloc _) rfl rfl (by simp [Value.oneCell']) (by have := HBd.out; have := HA.out.2.2; simp only [M] at this; simp only [maxLen]; omega) (by have := HBd.out; have := HA.out.2.2; simp only [M] at this; omega) ?_
        intro v5 w5 h5
        have H5 := Lib.hid h5.two.drop
        have HP2 := Lib.hid (Reps.snoc HP.out HK.out rfl)
        rw [← HE.out.2, ← HE.out.1] at HP2
        rw [← HE.out.1] at H5
        clear h5
        go_wp2
        exact ⟨⟨_, x - 1, _, rfl, by omega, by omega, by go_num, H5, HP2⟩, by simp only [intOf]; omega⟩
      · have hge' : (0 ≤ x) = False := eq_false hge
        have ek : ((l.length : Int) - 1 - x).toNat = l.length := by omega
        rw [ek] at HR HP
        have et : l.reverse.take l.length = l.reverse := List.take_of_length_le (by simp)
        rw [et] at HP
        obtain ⟨A5, c5, e5, hC5⟩ := row_C (d := kMd) (l := l.reverse) (by decide) (by simp) HR.out (HP.out.imp_ fun _ _ hp => kMd.K_below HR.out.below hp)
        rw [List.length_reverse] at e5 hC5
        subst e5
        have HR5 := Lib.hid (resolve_n A5 c5 l.reverse List.length_reverse.symm HR.out hC5 (fun m hm => HA.out.2.1 m (List.mem_reverse.1 hm)))
        clear hC5 ek et
        go_wp2_with fail
        refine HR5.out.mono ?_
        rintro e w6 ⟨A2, n2, c2, xk2, he, hn2, hR2, h6⟩
        obtain ⟨hv1, hv2⟩ := res_rev l
        rw [hv1, HR1.out] at he
        subst he
        have hnn : n1 = n2 := by rw [hn2, HN1.out]; exact hv2.length_eq.symm
        obtain ⟨_, _, ea, hca⟩ := row_C (d := kEn) (l := (resP l).2) (by decide) HN1.out h6.drop.drop.drop (Vw.get h6.drop.drop.drop.two)
        obtain ⟨_, _, eb, hcb⟩ := row_C (d := kEn) (l := (resP l.reverse).2) (by decide) hn2 h6 hR2
        simp only [Value.slice.injEq] at ea eb
        obtain ⟨rfl, -, rfl⟩ := ea
        obtain ⟨rfl, -, rfl⟩ := eb
        have HCap : Hid (n1 ≤ c1 ∧ c1 ≤ 9223372036854775807 ∧ n1 ≤ c2 ∧ c2 ≤ 9223372036854775807 ∧ n1 ≤ 65536) := Lib.hid (by
          obtain ⟨-, _, _, ea, k1, k2, -⟩ := h6.drop.drop.drop.reads
          obtain ⟨-, _, _, eb, k3, k4, -⟩ := h6.reads
          simp only [Value.slice.injEq] at ea eb
          obtain ⟨-, -, rfl⟩ := ea
          obtain ⟨-, -, rfl⟩ := eb
          simp only [maxLen] at k2 k4
          have := (res_o HA.out.2.1).2
          exact ⟨k1, by omega, by omega, by omega, by rw [HN1.out]; exact this⟩)
        have HE : Hid (∀ w', S w6 w' emp → S w0 w' R) := Lib.hid fun w' h' => (nest (nest H2.out h6) h').drop.drop
        have HC : Hid (kEn.C w6 A1 n1 (resP l).2 ∧ kEn.C w6 A2 n1 (resP l.reverse).2 ∧ kMd.C w6 A l.length l ∧ n1 = (resP l).2.length ∧ (∀ x ∈ (resP l).2, oS x.m ∧ oS x.n ∧ Dp 40 x.t)) := Lib.hid ⟨by rw [HN1.out]; exact hca, by rw [hnn, hn2]; exact hcb, Kd.C_below HM.out h6.below, HN1.out, (res_o HA.out.2.1).1⟩
        have HL : Hid (n1 = (resP l.reverse).2.length ∧ (∀ x ∈ (resP l.reverse).2, oS x.m ∧ oS x.n ∧ Dp 40 x.t) ∧ (resP l).2.length ≤ 65536) := Lib.hid ⟨hnn.trans hn2, fun x hx => (res_o HA.out.2.1).1 x (hv2.mem_iff.1 hx), (res_o HA.out.2.1).2⟩
        subst hnn
        clear hn2 hR2 h6 hv1 hv2 hca hcb HR5 HR HP HM H2
        by_cases z : r1 = 0
        case neg =>
          have hnil : n1 = 0 := by rw [HN1.out, res_nil (by rw [HR1.out]; exact z)]; rfl
          subst hnil
          have z1 : (r1 != 0) = true := bne_iff_ne.2 z
          have z3 : (r1 != r1) = false := bne_self_eq_false _
          clear z HR1 HN1 HC HL
          go_wp2
          go_ret
          exact ⟨rfl, HE.out _ (St.start w6)⟩
        case pos =>
          subst z
          have HQ : Hid (Closed l (resP l).2 (resP l.reverse).2) := Lib.hid (res_closed HR1.out)
          clear HR1 HN1
          generalize (resP l).2 = y at *
          generalize (resP l.reverse).2 = y' at *
          have HB : Hid (n1 ≤ 65536 ∧ (nmsP l).length = n1) := Lib.hid ⟨by rw [HC.out.2.2.2.1]; exact HL.out.2.2, by rw [← HQ.out.nm, List.length_map, HC.out.2.2.2.1]⟩
          have HS := Lib.hid (St.start w6)
          go_wp2
          go_loopw [10, 11] (fun v10 v11 wr => ∃ nn x : Int, 0 ≤ nn ∧ 0 ≤ x ∧ x ≤ l.length ∧ v10 = .int .i64 nn ∧ v11 = .int .i64 x ∧ Hid (S w6 wr emp) ∧ Hid (nn.toNat = (nmsP (l.take x.toNat)).length)) (fun _ v _ => l.length - (intOf v).toNat)
          case atStart => exact ⟨0, 0, Int.le_refl _, Int.le_refl _, by omega, rfl, rfl, HS, Lib.hid (by simp [nmsP])⟩
          case round =>
            clear HS
            obtain ⟨nn, x, hn0, hx0, hx1, rfl, rfl, HS, HN⟩ := hrel
            by_cases hlt : x < l.length
            · obtain ⟨ad, cs, eA, hcl0, hK, hcell0⟩ := Kd.C_get HC.out.2.2.1 zMd x hx0 hlt
              cases eA
              have hcell : ∀ (j : Nat) (u : Value), cs[j]? = some u → w6.cell? (ad.add (x.toNat * 4 + j)) = some u := hcell0
              have HG := Lib.hid (getD_mem l zMd x hx0 hlt)
              generalize l.getD x.toNat zMd = r at *
              obtain ⟨A2', c2', A3, c3, rfl, -, -, -, g3⟩ := kMd_open (show kMd.K w6 r cs from hK)
              have HFm : Hid (∀ W, Below w6.heap.size w6 W → W.cell? (ad.add (x.toNat * 4)) = some (.string r.n) ∧ W.cell? ⟨(ad.add (x.toNat * 4)).block, (ad.add (x.toNat * 4)).off + 3, none⟩ = some (.slice A3 r.df.length c3)) := Lib.hid fun W hW => by
                refine ⟨pw_cell_below hW (hcell 0 _ rfl), ?_⟩
                rw [← add_field ad _ 3 (by decide)]
                exact pw_cell_below hW (hcell 3 _ rfl)
              have HG3 := Lib.hid g3
              have hl3 : r.df.length ≤ 9223372036854775807 := g3.2.1
              have HN2 : Hid (nn.toNat = (nmsP (l.take x.toNat)).length + (0 : Int).toNat) := Lib.hid (by rw [HN.out]; rfl)
              have p126 := eq_true hx0
              have q126 : (x < (l.length : Int)) = True := eq_true hlt
              clear hcell hcell0 hcl0 hK g3 HN
              go_wp2
              go_loopw [10, 12] (fun v10 v12 wr => ∃ nn k : Int, 0 ≤ nn ∧ 0 ≤ k ∧ k ≤ r.df.length ∧ v10 = .int .i64 nn ∧ v12 = .int .i64 k ∧ Hid (S w6 wr emp) ∧ Hid (nn.toNat = (nmsP (l.take x.toNat)).length + k.toNat)) (fun _ v _ => r.df.length - (intOf v).toNat)
              case atStart => exact ⟨_, 0, hn0, Int.le_refl _, by omega, rfl, rfl, HS, HN2⟩
              case round =>
                clear HS HN2 hn0
                obtain ⟨nn, k, hn0, hk0, hk1, rfl, rfl, HS, HN⟩ := hrel
                obtain ⟨m0, m3⟩ := HFm.out _ HS.out.below
                by_cases hlk : k < r.df.length
                · obtain ⟨ad3, ds, eA3, hcl3, hKd, hcell3⟩ := Kd.C_get HG3.out zDf k hk0 hlk
                  cases eA3
                  have hcd : ∀ (j : Nat) (u : Value), ds[j]? = some u → w6.cell? (ad3.add (k.toNat * 16 + j)) = some u := hcell3
                  have hgd := getD_mem r.df zDf k hk0 hlk
                  generalize r.df.getD k.toNat zDf = d at *
                  obtain ⟨ts0, hD⟩ := df_cells (show kDf.K w6 d ds from hKd)
                  obtain ⟨u, hu, hum, hun⟩ := HQ.out.at HG.out hgd
                  rw [← HN.out] at hu
                  have hnlt : nn < n1 := by have := (List.getElem?_eq_some_iff.1 hu).1; have := HC.out.2.2.2.1; omega
                  obtain ⟨aa, es, eAa, hcle, hKe, hcelle⟩ := c_at HC.out.1 hu
                  cases eAa
                  have hce : ∀ (j : Nat) (v : Value), es[j]? = some v → w6.cell? (aa.add (nn.toNat * 18 + j)) = some v := hcelle
                  obtain ⟨ts, ee, hT⟩ := kEn_open (show kEn.K w6 u es from hKe)
                  have hem : es[0]? = some (.string r.n) := by rw [ee, ← hum]; rfl
                  have hen : es[1]? = some (.string d.n) := by rw [ee, ← hun]; rfl
                  have hts : ∀ (j : Nat) (v : Value), ts[j]? = some v → es[3 + j]? = some v := fun j v hv => by rw [ee, Nat.add_comm]; exact hv
                  have HF : Hid (∀ W, Below w6.heap.size w6 W → (W.cell? (aa.add (nn.toNat * 18)) = some (.string r.n) ∧ W.cell? ⟨(aa.add (nn.toNat * 18)).block, (aa.add (nn.toNat * 18)).off + 1, none⟩ = some (.string d.n)) ∧ (W.cell? (ad.add (x.toNat * 4)) = some (.string r.n) ∧ W.cell? ⟨(ad.add (x.toNat * 4)).block, (ad.add (x.toNat * 4)).off + 3, none⟩ = some (.slice (some ad3) r.df.length c3)) ∧ W.cell? (ad3.add (k.toNat * 16)) = some (.string d.n) ∧ Hid (∀ (j : Nat) (v : Value), ts[j]? = some v → W.cell? ((⟨(aa.add (nn.toNat * 18)).block, (aa.add (nn.toNat * 18)).off + 3, none⟩ : Addr).add j) = some v)) := Lib.hid fun W hW => by
                    refine ⟨⟨pw_cell_below hW (hce 0 _ hem), ?_⟩, HFm.out W hW, pw_cell_below hW (hcd 0 _ hD.n), Lib.hid fun j v hv => ?_⟩
                    · rw [← add_field aa _ 1 (by decide)]; exact pw_cell_below hW (hce 1 _ hen)
                    · have := pw_cell_below hW (hce (3 + j) v (hts j v hv))
                      rw [add_field aa _ _ (by omega), ← Nat.add_assoc] at this
                      rw [WideShapes.add_plain]; exact this
                  have HT := Lib.hid (And.intro hT (kTy.K_len hT : ts.length = 15))
                  have hmem : u ∈ y := List.mem_of_getElem? hu
                  have HU := Lib.hid (And.intro hu (And.intro (HQ.out.refs u hmem) hmem))
                  have HU2 : Hid (∀ j : Int, Place (nmB (r.n ++ ⟨#[46]⟩ ++ d.n)) y' j → 0 ≤ j ∧ j < n1 ∧ y'[j.toNat]? = some u) := Lib.hid fun j hj => by
                    have h1 := HQ.out.place hmem (j := j) (by rw [hum, hun]; exact hj)
                    have h2 := HL.out.1
                    exact ⟨h1.1, by omega, h1.2.2⟩
                  have hz1 : r.n.size ≤ 140737488355328 := by have := (HC.out.2.2.2.2 u hmem).1; rw [hum] at this; exact this
                  have hz2 : d.n.size ≤ 140737488355328 := by have := (HC.out.2.2.2.2 u hmem).2.1; rw [hun] at this; exact this
                  have hz3 : (r.n ++ (⟨#[46]⟩ : ByteArray)).size = r.n.size + 1 := ByteArray.size_append
                  have y5 : (9223372036854775807 < r.n.size + 1) = False := eq_false (by omega)
                  have y6 : (9223372036854775807 < r.n.size + 1 + d.n.size) = False := eq_false (by omega)
                  have y0 : (r.n.toList != r.n.toList) = false := bne_self_eq_false _
                  have y1 : (d.n.toList != d.n.toList) = false := bne_self_eq_false _
                  have p127 := eq_true hk0
                  have q127 : (k < (r.df.length : Int)) = True := eq_true hlk
                  have p128 := eq_true hn0
                  have q128 : (nn < (n1 : Int)) = True := eq_true hnlt
                  have s128 : ((n1 : Int) ≤ nn) = False := eq_false (by omega)
                  clear hcd hcell3 hcl3 hKd hgd hD hu hum hun hcle hKe hcelle hce ee hT hem hen hts hmem
                  clear ts0
                  go_wp2
                  refine wp_region_held_drew (S := fun W => (W.cell? (aa.add (nn.toNat * 18)) = some (.string r.n) ∧ W.cell? ⟨(aa.add (nn.toNat * 18)).block, (aa.add (nn.toNat * 18)).off + 1, none⟩ = some (.string d.n)) ∧ (W.cell? (ad.add (x.toNat * 4)) = some (.string r.n) ∧ W.cell? ⟨(ad.add (x.toNat * 4)).block, (ad.add (x.toNat * 4)).off + 3, none⟩ = some (.slice (some ad3) r.df.length c3)) ∧ W.cell? (ad3.add (k.toNat * 16)) = some (.string d.n) ∧ Hid (∀ (j : Nat) (v : Value), ts[j]? = some v → W.cell? ((⟨(aa.add (nn.toNat * 18)).block, (aa.add (nn.toNat * 18)).off + 3, none⟩ : Addr).add j) = some v)) (by kernel_rfl) ?_ (fun hHeld => ?_)
                  · exact HF.out _ HS.out.drew.below
                  refine wpAnyH_take (i := 0) (oi := ⟨some 77, .move (.tmp 10), 3, "law.go:127", #[], none⟩) (v := ?_) rfl (by kernel_rfl) (by kernel_rfl) (by kernel_rfl) (fun _ _ _ h => h) (Or.inl ⟨by rfl, ?_⟩) (by assumption) ?_
                  rotate_left 1
                  · intro w hSw
                    try dsimp only at hSw
                    go_simp
                    all_goals with_reducible rfl
                  try simp only [Act.put, List.setIfInBounds_toArray, List.set_cons_succ, List.set_cons_zero]
                  refine wpAnyH_take (i := 1) (oi := ⟨some 78, .move (.tmp 4), 41, "law.go:127", #[], none⟩) (v := ?_) rfl (by kernel_rfl) (by kernel_rfl) (by kernel_rfl) (fun _ _ _ h => h) (Or.inl ⟨by rfl, ?_⟩) (by assumption) ?_
                  rotate_left 1
                  · intro w hSw
                    try dsimp only at hSw
                    go_simp
                    all_goals with_reducible rfl
                  try simp only [Act.put, List.setIfInBounds_toArray, List.set_cons_succ, List.set_cons_zero]
                  refine wpAnyH_take (i := 2) (oi := ⟨some 79, .call { callee := .builtin .len, args := #[.tmp 78], argTypes := #[41] }, 3, "law.go:127", #[⟨1, .data⟩], none⟩) (v := ?_) rfl (by kernel_rfl) (by kernel_rfl) (by kernel_rfl) (fun _ _ _ h => h) (Or.inl ⟨by rfl, ?_⟩) (by assumption) ?_
                  rotate_left 1
                  · intro w hSw
                    try dsimp only at hSw
                    go_simp
                    all_goals with_reducible rfl
                  try simp only [Act.put, List.setIfInBounds_toArray, List.set_cons_succ, List.set_cons_zero]
                  refine wpAnyH_take (i := 3) (oi := ⟨some 80, .binOp .geq 3 (.tmp 77) (.tmp 79) 3, 4, "law.go:127", #[⟨0, .data⟩, ⟨2, .data⟩], none⟩) (v := ?_) rfl (by kernel_rfl) (by kernel_rfl) (by kernel_rfl) (fun _ _ _ h => h) (Or.inl ⟨by rfl, ?_⟩) (by assumption) ?_
                  rotate_left 1
                  · intro w hSw
                    try dsimp only at hSw
                    go_simp
                    all_goals with_reducible rfl
                  try simp only [Act.put, List.setIfInBounds_toArray, List.set_cons_succ, List.set_cons_zero]
                  refine wpAnyH_take (i := 4) (oi := ⟨some 81, .move (.tmp 80), 4, "law.go:127", #[⟨3, .data⟩], none⟩) (v := ?_) rfl (by kernel_rfl) (by kernel_rfl) (by kernel_rfl) (fun _ _ _ h => h) (Or.inl ⟨by rfl, ?_⟩) (by assumption) ?_
                  rotate_left 1
                  · intro w hSw
                    try dsimp only at hSw
                    go_simp
                    all_goals with_reducible rfl
                  try simp only [Act.put, List.setIfInBounds_toArray, List.set_cons_succ, List.set_cons_zero]
                  refine wpAnyH_take (i := 5) (oi := ⟨some 82, .move (.tmp 4), 41, "law.go:127", #[⟨4, .guard⟩], some (4, false)⟩) (v := ?_) rfl (by kernel_rfl) (by kernel_rfl) (by kernel_rfl) (fun _ _ _ h => h) (Or.inl ⟨by rfl, ?_⟩) (by assumption) ?_
                  rotate_left 1
                  · intro w hSw
                    try dsimp only at hSw
                    go_simp
                    all_goals with_reducible rfl
                  try simp only [Act.put, List.setIfInBounds_toArray, List.set_cons_succ, List.set_cons_zero]
                  refine wpAnyH_take (i := 6) (oi := ⟨some 83, .move (.tmp 10), 3, "law.go:127", #[⟨4, .guard⟩], some (4, false)⟩) (v := ?_) rfl (by kernel_rfl) (by kernel_rfl) (by kernel_rfl) (fun _ _ _ h => h) (Or.inl ⟨by rfl, ?_⟩) (by assumption) ?_
                  rotate_left 1
                  · intro w hSw
                    try dsimp only at hSw
                    go_simp
                    all_goals with_reducible rfl
                  try simp only [Act.put, List.setIfInBounds_toArray, List.set_cons_succ, List.set_cons_zero]
                  refine wpAnyH_take (i := 7) (oi := ⟨some 84, .indexAddr 41 (.tmp 82) (.tmp 83), 0, "law.go:127", #[⟨5, .data⟩, ⟨6, .data⟩, ⟨4, .guard⟩], some (4, false)⟩) (v := ?_) rfl (by kernel_rfl) (by kernel_rfl) (by kernel_rfl) (fun _ _ _ h => h) (Or.inl ⟨by rfl, ?_⟩) (by assumption) ?_
                  rotate_left 1
                  · intro w hSw
                    try dsimp only at hSw
                    go_simp
                    all_goals with_reducible rfl
                  try simp only [Act.put, List.setIfInBounds_toArray, List.set_cons_succ, List.set_cons_zero]
                  refine wpAnyH_take (i := 8) (oi := ⟨some 85, .fieldAddr 57 (.tmp 84) 0, 0, "law.go:127", #[⟨7, .data⟩, ⟨4, .guard⟩], some (4, false)⟩) (v := ?_) rfl (by kernel_rfl) (by kernel_rfl) (by kernel_rfl) (fun _ _ _ h => h) (Or.inl ⟨by rfl, ?_⟩) (by assumption) ?_
                  rotate_left 1
                  · intro w hSw
                    try dsimp only at hSw
                    go_simp
                    all_goals with_reducible rfl
                  try simp only [Act.put, List.setIfInBounds_toArray, List.set_cons_succ, List.set_cons_zero]
                  refine wpAnyH_take (i := 9) (oi := ⟨some 86, .load 9 (.tmp 85), 9, "law.go:127", #[⟨8, .data⟩, ⟨4, .guard⟩], some (4, false)⟩) (v := ?_) rfl (by kernel_rfl) (by kernel_rfl) (by kernel_rfl) (fun _ _ _ h => h) (Or.inl ⟨by rfl, ?_⟩) (by assumption) ?_
                  rotate_left 1
                  · intro w hSw
                    try dsimp only at hSw
                    go_simp
                    all_goals with_reducible rfl
                  try simp only [Act.put, List.setIfInBounds_toArray, List.set_cons_succ, List.set_cons_zero]
                  refine wpAnyH_take (i := 10) (oi := ⟨some 87, .move (.tmp 0), 39, "law.go:127", #[⟨4, .guard⟩], some (4, false)⟩) (v := ?_) rfl (by kernel_rfl) (by kernel_rfl) (by kernel_rfl) (fun _ _ _ h => h) (Or.inl ⟨by rfl, ?_⟩) (by assumption) ?_
                  rotate_left 1
                  · intro w hSw
                    try dsimp only at hSw
                    go_simp
                    all_goals with_reducible rfl
                  try simp only [Act.put, List.setIfInBounds_toArray, List.set_cons_succ, List.set_cons_zero]
                  refine wpAnyH_take (i := 11) (oi := ⟨some 88, .move (.tmp 11), 3, "law.go:127", #[⟨4, .guard⟩], some (4, false)⟩) (v := ?_) rfl (by kernel_rfl) (by kernel_rfl) (by kernel_rfl) (fun _ _ _ h => h) (Or.inl ⟨by rfl, ?_⟩) (by assumption) ?_
                  rotate_left 1
                  · intro w hSw
                    try dsimp only at hSw
                    go_simp
                    all_goals with_reducible rfl
                  try simp only [Act.put, List.setIfInBounds_toArray, List.set_cons_succ, List.set_cons_zero]
                  refine wpAnyH_take (i := 12) (oi := ⟨some 89, .indexAddr 39 (.tmp 87) (.tmp 88), 0, "law.go:127", #[⟨10, .data⟩, ⟨11, .data⟩, ⟨4, .guard⟩], some (4, false)⟩) (v := ?_) rfl (by kernel_rfl) (by kernel_rfl) (by kernel_rfl) (fun _ _ _ h => h) (Or.inl ⟨by rfl, ?_⟩) (by assumption) ?_
                  rotate_left 1
                  · intro w hSw
                    try dsimp only at hSw
                    go_simp
                    all_goals with_reducible rfl
                  try simp only [Act.put, List.setIfInBounds_toArray, List.set_cons_succ, List.set_cons_zero]
                  refine wpAnyH_take (i := 13) (oi := ⟨some 90, .fieldAddr 47 (.tmp 89) 0, 0, "law.go:127", #[⟨12, .data⟩, ⟨4, .guard⟩], some (4, false)⟩) (v := ?_) rfl (by kernel_rfl) (by kernel_rfl) (by kernel_rfl) (fun _ _ _ h => h) (Or.inl ⟨by rfl, ?_⟩) (by assumption) ?_
                  rotate_left 1
                  · intro w hSw
                    try dsimp only at hSw
                    go_simp
                    all_goals with_reducible rfl
                  try simp only [Act.put, List.setIfInBounds_toArray, List.set_cons_succ, List.set_cons_zero]
                  refine wpAnyH_take (i := 14) (oi := ⟨some 91, .load 9 (.tmp 90), 9, "law.go:127", #[⟨13, .data⟩, ⟨4, .guard⟩], some (4, false)⟩) (v := ?_) rfl (by kernel_rfl) (by kernel_rfl) (by kernel_rfl) (fun _ _ _ h => h) (Or.inl ⟨by rfl, ?_⟩) (by assumption) ?_
                  rotate_left 1
                  · intro w hSw
                    try dsimp only at hSw
                    go_simp
                    all_goals with_reducible rfl
                  try simp only [Act.put, List.setIfInBounds_toArray, List.set_cons_succ, List.set_cons_zero]
                  refine wpAnyH_take (i := 15) (oi := ⟨some 92, .binOp .neq 9 (.tmp 86) (.tmp 91) 9, 4, "law.go:127", #[⟨9, .data⟩, ⟨14, .data⟩, ⟨4, .guard⟩], some (4, false)⟩) (v := ?_) rfl (by kernel_rfl) (by kernel_rfl) (by kernel_rfl) (fun _ _ _ h => h) (Or.inl ⟨by rfl, ?_⟩) (by assumption) ?_
                  rotate_left 1
                  · intro w hSw
                    try dsimp only at hSw
                    go_simp
                    all_goals with_reducible rfl
                  try simp only [Act.put, List.setIfInBounds_toArray, List.set_cons_succ, List.set_cons_zero]
                  refine wpAnyH_take (i := 16) (oi := ⟨some 93, .pick (.tmp 81) (.const (.bool true)) (.tmp 92), 4, "law.go:127", #[⟨4, .data⟩, ⟨15, .data⟩], none⟩) (v := ?_) rfl (by kernel_rfl) (by kernel_rfl) (by kernel_rfl) (fun _ _ _ h => h) (Or.inl ⟨by rfl, ?_⟩) (by assumption) ?_
                  rotate_left 1
                  · intro w hSw
                    try dsimp only at hSw
                    go_simp
                    all_goals with_reducible rfl
                  try simp only [Act.put, List.setIfInBounds_toArray, List.set_cons_succ, List.set_cons_zero]
                  refine wpAnyH_take (i := 17) (oi := ⟨some 94, .move (.tmp 93), 4, "law.go:127", #[⟨16, .data⟩, ⟨4, .chain⟩], none⟩) (v := ?_) rfl (by kernel_rfl) (by kernel_rfl) (by kernel_rfl) (fun _ _ _ h => h) (Or.inl ⟨by rfl, ?_⟩) (by assumption) ?_
                  rotate_left 1
                  · intro w hSw
                    try dsimp only at hSw
                    go_simp
                    all_goals with_reducible rfl
                  try simp only [Act.put, List.setIfInBounds_toArray, List.set_cons_succ, List.set_cons_zero]
                  refine wpAnyH_take (i := 18) (oi := ⟨some 95, .move (.tmp 4), 41, "law.go:127", #[⟨17, .guard⟩], some (17, false)⟩) (v := ?_) rfl (by kernel_rfl) (by kernel_rfl) (by kernel_rfl) (fun _ _ _ h => h) (Or.inl ⟨by rfl, ?_⟩) (by assumption) ?_
                  rotate_left 1
                  · intro w hSw
                    try dsimp only at hSw
                    go_simp
                    all_goals with_reducible rfl
                  try simp only [Act.put, List.setIfInBounds_toArray, List.set_cons_succ, List.set_cons_zero]
                  refine wpAnyH_take (i := 19) (oi := ⟨some 96, .move (.tmp 10), 3, "law.go:127", #[⟨17, .guard⟩], some (17, false)⟩) (v := ?_) rfl (by kernel_rfl) (by kernel_rfl) (by kernel_rfl) (fun _ _ _ h => h) (Or.inl ⟨by rfl, ?_⟩) (by assumption) ?_
                  rotate_left 1
                  · intro w hSw
                    try dsimp only at hSw
                    go_simp
                    all_goals with_reducible rfl
                  try simp only [Act.put, List.setIfInBounds_toArray, List.set_cons_succ, List.set_cons_zero]
                  refine wpAnyH_take (i := 20) (oi := ⟨some 97, .indexAddr 41 (.tmp 95) (.tmp 96), 0, "law.go:127", #[⟨18, .data⟩, ⟨19, .data⟩, ⟨17, .guard⟩], some (17, false)⟩) (v := ?_) rfl (by kernel_rfl) (by kernel_rfl) (by kernel_rfl) (fun _ _ _ h => h) (Or.inl ⟨by rfl, ?_⟩) (by assumption) ?_
                  rotate_left 1
                  · intro w hSw
                    try dsimp only at hSw
                    go_simp
                    all_goals with_reducible rfl
                  try simp only [Act.put, List.setIfInBounds_toArray, List.set_cons_succ, List.set_cons_zero]
                  refine wpAnyH_take (i := 21) (oi := ⟨some 98, .fieldAddr 57 (.tmp 97) 1, 0, "law.go:127", #[⟨20, .data⟩, ⟨17, .guard⟩], some (17, false)⟩) (v := ?_) rfl (by kernel_rfl) (by kernel_rfl) (by kernel_rfl) (fun _ _ _ h => h) (Or.inl ⟨by rfl, ?_⟩) (by assumption) ?_
                  rotate_left 1
                  · intro w hSw
                    try dsimp only at hSw
                    go_simp
                    all_goals with_reducible rfl
                  try simp only [Act.put, List.setIfInBounds_toArray, List.set_cons_succ, List.set_cons_zero]
                  refine wpAnyH_take (i := 22) (oi := ⟨some 99, .load 9 (.tmp 98), 9, "law.go:127", #[⟨21, .data⟩, ⟨17, .guard⟩], some (17, false)⟩) (v := ?_) rfl (by kernel_rfl) (by kernel_rfl) (by kernel_rfl) (fun _ _ _ h => h) (Or.inl ⟨by rfl, ?_⟩) (by assumption) ?_
                  rotate_left 1
                  · intro w hSw
                    try dsimp only at hSw
                    go_simp
                    all_goals with_reducible rfl
                  try simp only [Act.put, List.setIfInBounds_toArray, List.set_cons_succ, List.set_cons_zero]
                  refine wpAnyH_take (i := 23) (oi := ⟨some 100, .move (.tmp 0), 39, "law.go:127", #[⟨17, .guard⟩], some (17, false)⟩) (v := ?_) rfl (by kernel_rfl) (by kernel_rfl) (by kernel_rfl) (fun _ _ _ h => h) (Or.inl ⟨by rfl, ?_⟩) (by assumption) ?_
                  rotate_left 1
                  · intro w hSw
                    try dsimp only at hSw
                    go_simp
                    all_goals with_reducible rfl
                  try simp only [Act.put, List.setIfInBounds_toArray, List.set_cons_succ, List.set_cons_zero]
                  refine wpAnyH_take (i := 24) (oi := ⟨some 101, .move (.tmp 11), 3, "law.go:127", #[⟨17, .guard⟩], some (17, false)⟩) (v := ?_) rfl (by kernel_rfl) (by kernel_rfl) (by kernel_rfl) (fun _ _ _ h => h) (Or.inl ⟨by rfl, ?_⟩) (by assumption) ?_
                  rotate_left 1
                  · intro w hSw
                    try dsimp only at hSw
                    go_simp
                    all_goals with_reducible rfl
                  try simp only [Act.put, List.setIfInBounds_toArray, List.set_cons_succ, List.set_cons_zero]
                  refine wpAnyH_take (i := 25) (oi := ⟨some 102, .indexAddr 39 (.tmp 100) (.tmp 101), 0, "law.go:127", #[⟨23, .data⟩, ⟨24, .data⟩, ⟨17, .guard⟩], some (17, false)⟩) (v := ?_) rfl (by kernel_rfl) (by kernel_rfl) (by kernel_rfl) (fun _ _ _ h => h) (Or.inl ⟨by rfl, ?_⟩) (by assumption) ?_
                  rotate_left 1
                  · intro w hSw
                    try dsimp only at hSw
                    go_simp
                    all_goals with_reducible rfl
                  try simp only [Act.put, List.setIfInBounds_toArray, List.set_cons_succ, List.set_cons_zero]
                  refine wpAnyH_take (i := 26) (oi := ⟨some 103, .fieldAddr 47 (.tmp 102) 3, 0, "law.go:127", #[⟨25, .data⟩, ⟨17, .guard⟩], some (17, false)⟩) (v := ?_) rfl (by kernel_rfl) (by kernel_rfl) (by kernel_rfl) (fun _ _ _ h => h) (Or.inl ⟨by rfl, ?_⟩) (by assumption) ?_
                  rotate_left 1
                  · intro w hSw
                    try dsimp only at hSw
                    go_simp
                    all_goals with_reducible rfl
                  try simp only [Act.put, List.setIfInBounds_toArray, List.set_cons_succ, List.set_cons_zero]
                  refine wpAnyH_take (i := 27) (oi := ⟨some 104, .load 45 (.tmp 103), 45, "law.go:127", #[⟨26, .data⟩, ⟨17, .guard⟩], some (17, false)⟩) (v := ?_) rfl (by kernel_rfl) (by kernel_rfl) (by kernel_rfl) (fun _ _ _ h => h) (Or.inl ⟨by rfl, ?_⟩) (by assumption) ?_
                  rotate_left 1
                  · intro w hSw
                    try dsimp only at hSw
                    go_simp
                    all_goals with_reducible rfl
                  try simp only [Act.put, List.setIfInBounds_toArray, List.set_cons_succ, List.set_cons_zero]
                  refine wpAnyH_take (i := 28) (oi := ⟨some 105, .move (.tmp 12), 3, "law.go:127", #[⟨17, .guard⟩], some (17, false)⟩) (v := ?_) rfl (by kernel_rfl) (by kernel_rfl) (by kernel_rfl) (fun _ _ _ h => h) (Or.inl ⟨by rfl, ?_⟩) (by assumption) ?_
                  rotate_left 1
                  · intro w hSw
                    try dsimp only at hSw
                    go_simp
                    all_goals with_reducible rfl
                  try simp only [Act.put, List.setIfInBounds_toArray, List.set_cons_succ, List.set_cons_zero]
                  refine wpAnyH_take (i := 29) (oi := ⟨some 106, .indexAddr 45 (.tmp 104) (.tmp 105), 0, "law.go:127", #[⟨27, .data⟩, ⟨28, .data⟩, ⟨17, .guard⟩], some (17, false)⟩) (v := ?_) rfl (by kernel_rfl) (by kernel_rfl) (by kernel_rfl) (fun _ _ _ h => h) (Or.inl ⟨by rfl, ?_⟩) (by assumption) ?_
                  rotate_left 1
                  · intro w hSw
                    try dsimp only at hSw
                    go_simp
                    all_goals with_reducible rfl
                  try simp only [Act.put, List.setIfInBounds_toArray, List.set_cons_succ, List.set_cons_zero]
                  refine wpAnyH_take (i := 30) (oi := ⟨some 107, .fieldAddr 59 (.tmp 106) 0, 0, "law.go:127", #[⟨29, .data⟩, ⟨17, .guard⟩], some (17, false)⟩) (v := ?_) rfl (by kernel_rfl) (by kernel_rfl) (by kernel_rfl) (fun _ _ _ h => h) (Or.inl ⟨by rfl, ?_⟩) (by assumption) ?_
                  rotate_left 1
                  · intro w hSw
                    try dsimp only at hSw
                    go_simp
                    all_goals with_reducible rfl
                  try simp only [Act.put, List.setIfInBounds_toArray, List.set_cons_succ, List.set_cons_zero]
                  refine wpAnyH_take (i := 31) (oi := ⟨some 108, .load 9 (.tmp 107), 9, "law.go:127", #[⟨30, .data⟩, ⟨17, .guard⟩], some (17, false)⟩) (v := ?_) rfl (by kernel_rfl) (by kernel_rfl) (by kernel_rfl) (fun _ _ _ h => h) (Or.inl ⟨by rfl, ?_⟩) (by assumption) ?_
                  rotate_left 1
                  · intro w hSw
                    try dsimp only at hSw
                    go_simp
                    all_goals with_reducible rfl
                  try simp only [Act.put, List.setIfInBounds_toArray, List.set_cons_succ, List.set_cons_zero]
                  refine wpAnyH_take (i := 32) (oi := ⟨some 109, .binOp .neq 9 (.tmp 99) (.tmp 108) 9, 4, "law.go:127", #[⟨22, .data⟩, ⟨31, .data⟩, ⟨17, .guard⟩], some (17, false)⟩) (v := ?_) rfl (by kernel_rfl) (by kernel_rfl) (by kernel_rfl) (fun _ _ _ h => h) (Or.inl ⟨by rfl, ?_⟩) (by assumption) ?_
                  rotate_left 1
                  · intro w hSw
                    try dsimp only at hSw
                    go_simp
                    all_goals with_reducible rfl
                  try simp only [Act.put, List.setIfInBounds_toArray, List.set_cons_succ, List.set_cons_zero]
                  refine wpAnyH_take (i := 33) (oi := ⟨some 110, .pick (.tmp 94) (.const (.bool true)) (.tmp 109), 4, "law.go:127", #[⟨17, .data⟩, ⟨32, .data⟩], none⟩) (v := ?_) rfl (by kernel_rfl) (by kernel_rfl) (by kernel_rfl) (fun _ _ _ h => h) (Or.inl ⟨by rfl, ?_⟩) (by assumption) ?_
                  rotate_left 1
                  · intro w hSw
                    try dsimp only at hSw
                    go_simp
                    all_goals with_reducible rfl
                  try simp only [Act.put, List.setIfInBounds_toArray, List.set_cons_succ, List.set_cons_zero]
                  refine wpAnyH_take (i := 34) (oi := ⟨some 111, .move (.tmp 110), 4, "law.go:127", #[⟨33, .data⟩, ⟨17, .chain⟩], none⟩) (v := ?_) rfl (by kernel_rfl) (by kernel_rfl) (by kernel_rfl) (fun _ _ _ h => h) (Or.inl ⟨by rfl, ?_⟩) (by assumption) ?_
                  rotate_left 1
                  · intro w hSw
                    try dsimp only at hSw
                    go_simp
                    all_goals with_reducible rfl
                  try simp only [Act.put, List.setIfInBounds_toArray, List.set_cons_succ, List.set_cons_zero]
                  refine wpAnyH_take (i := 35) (oi := ⟨some 112, .move (.tmp 4), 41, "law.go:127", #[⟨34, .guard⟩], some (34, false)⟩) (v := ?_) rfl (by kernel_rfl) (by kernel_rfl) (by kernel_rfl) (fun _ _ _ h => h) (Or.inl ⟨by rfl, ?_⟩) (by assumption) ?_
                  rotate_left 1
                  · intro w hSw
                    try dsimp only at hSw
                    go_simp
                    all_goals with_reducible rfl
                  try simp only [Act.put, List.setIfInBounds_toArray, List.set_cons_succ, List.set_cons_zero]
                  refine wpAnyH_take (i := 36) (oi := ⟨some 113, .move (.tmp 4), 41, "law.go:127", #[⟨34, .guard⟩], some (34, false)⟩) (v := ?_) rfl (by kernel_rfl) (by kernel_rfl) (by kernel_rfl) (fun _ _ _ h => h) (Or.inl ⟨by rfl, ?_⟩) (by assumption) ?_
                  rotate_left 1
                  · intro w hSw
                    try dsimp only at hSw
                    go_simp
                    all_goals with_reducible rfl
                  try simp only [Act.put, List.setIfInBounds_toArray, List.set_cons_succ, List.set_cons_zero]
                  refine wpAnyH_take (i := 37) (oi := ⟨some 114, .move (.tmp 10), 3, "law.go:127", #[⟨34, .guard⟩], some (34, false)⟩) (v := ?_) rfl (by kernel_rfl) (by kernel_rfl) (by kernel_rfl) (fun _ _ _ h => h) (Or.inl ⟨by rfl, ?_⟩) (by assumption) ?_
                  rotate_left 1
                  · intro w hSw
                    try dsimp only at hSw
                    go_simp
                    all_goals with_reducible rfl
                  try simp only [Act.put, List.setIfInBounds_toArray, List.set_cons_succ, List.set_cons_zero]
                  refine wpAnyH_take (i := 38) (oi := ⟨some 115, .indexAddr 41 (.tmp 113) (.tmp 114), 0, "law.go:127", #[⟨36, .data⟩, ⟨37, .data⟩, ⟨34, .guard⟩], some (34, false)⟩) (v := ?_) rfl (by kernel_rfl) (by kernel_rfl) (by kernel_rfl) (fun _ _ _ h => h) (Or.inl ⟨by rfl, ?_⟩) (by assumption) ?_
                  rotate_left 1
                  · intro w hSw
                    try dsimp only at hSw
                    go_simp
                    all_goals with_reducible rfl
                  try simp only [Act.put, List.setIfInBounds_toArray, List.set_cons_succ, List.set_cons_zero]
                  refine wpAnyH_take (i := 39) (oi := ⟨some 116, .fieldAddr 57 (.tmp 115) 3, 0, "law.go:127", #[⟨38, .data⟩, ⟨34, .guard⟩], some (34, false)⟩) (v := ?_) rfl (by kernel_rfl) (by kernel_rfl) (by kernel_rfl) (fun _ _ _ h => h) (Or.inl ⟨by rfl, ?_⟩) (by assumption) ?_
                  rotate_left 1
                  · intro w hSw
                    try dsimp only at hSw
                    go_simp
                    all_goals with_reducible rfl
                  try simp only [Act.put, List.setIfInBounds_toArray, List.set_cons_succ, List.set_cons_zero]
                  refine wpAnyH_take (i := 40) (oi := ⟨some 117, .load 55 (.tmp 116), 55, "law.go:127", #[⟨39, .data⟩, ⟨34, .guard⟩], some (34, false)⟩) (v := .agg ts.toArray) rfl (by kernel_rfl) (by kernel_rfl) (by kernel_rfl) (fun _ _ _ h => h) (yields_load (by rfl) 55 _ rfl ⟨(aa.add (nn.toNat * 18)).block, (aa.add (nn.toNat * 18)).off + 3, none⟩ rfl ts (fun w hS => hS.2.2.2.out) _ Try.underlying55 rfl (by rw [HT.out.2]; kernel_rfl)) (by assumption) ?_
                  try simp only [Act.put, List.setIfInBounds_toArray, List.set_cons_succ, List.set_cons_zero]
                  refine wpAnyH_ready (rs := [41]) (by kernel_rfl) (by simp) ?_
                  refine AllReadyH.cons (o := ⟨some 118, .call { callee := .value (.func 20), args := #[.tmp 112, .tmp 117], argTypes := #[41, 55] }, 4, "law.go:127", #[⟨35, .data⟩, ⟨40, .data⟩, ⟨34, .chain⟩, ⟨34, .guard⟩], some (34, false)⟩) rfl (fun K hK => ?_) AllReadyH.nil
                  go_simp
                  refine (lfound_n (some aa) c1 y HC.out.2.2.2.1 HC.out.1 HC.out.2.2.2.2 40 u.t HU.out.2.1 _ _ ts HS.out.drew HT.out.1).mono ?_
                  rintro e w7 ⟨rfl, h7⟩
                  refine hK.out _ _ ?_ (fun hHeld => ?_)
                  · exact HF.out _ h7.below
                  clear hK K
                  try simp only [Act.put, List.setIfInBounds_toArray, List.set_cons_succ, List.set_cons_zero]
                  refine wpAnyH_take (i := 42) (oi := ⟨some 119, .unOp .not 4 (.tmp 118), 4, "law.go:127", #[⟨41, .data⟩, ⟨34, .guard⟩], some (34, false)⟩) (v := ?_) rfl (by kernel_rfl) (by kernel_rfl) (by kernel_rfl) (fun _ _ _ h => h) (Or.inl ⟨by rfl, ?_⟩) (by assumption) ?_
                  rotate_left 1
                  · intro w hSw
                    try dsimp only at hSw
                    go_simp
                    all_goals with_reducible rfl
                  try simp only [Act.put, List.setIfInBounds_toArray, List.set_cons_succ, List.set_cons_zero]
                  refine wpAnyH_take (i := 43) (oi := ⟨some 120, .pick (.tmp 111) (.const (.bool true)) (.tmp 119), 4, "law.go:127", #[⟨34, .data⟩, ⟨42, .data⟩], none⟩) (v := ?_) rfl (by kernel_rfl) (by kernel_rfl) (by kernel_rfl) (fun _ _ _ h => h) (Or.inl ⟨by rfl, ?_⟩) (by assumption) ?_
                  rotate_left 1
                  · intro w hSw
                    try dsimp only at hSw
                    go_simp
                    all_goals with_reducible rfl
                  try simp only [Act.put, List.setIfInBounds_toArray, List.set_cons_succ, List.set_cons_zero]
                  refine wpAnyH_done (by kernel_rfl) ?_ _
                  have H7 := Lib.hid h7
                  clear h7 hHeld HS m0 m3
                  go_wp2
                  refine wp_region_held_drew (S := fun W => W.cell? (aa.add (nn.toNat * 18)) = some (.string r.n) ∧ W.cell? ⟨(aa.add (nn.toNat * 18)).block, (aa.add (nn.toNat * 18)).off + 1, none⟩ = some (.string d.n)) (by kernel_rfl) ?_ (fun hHeld => ?_)
                  · exact (HF.out _ H7.out.drew.below).1
                  refine wpAnyH_take (i := 0) (oi := ⟨some 121, .move (.tmp 8), 41, "law.go:130", #[], none⟩) (v := ?_) rfl (by kernel_rfl) (by kernel_rfl) (by kernel_rfl) (fun _ _ _ h => h) (Or.inl ⟨by rfl, ?_⟩) (by assumption) ?_
                  rotate_left 1
                  · intro w hSw
                    try dsimp only at hSw
                    go_simp
                    all_goals with_reducible rfl
                  try simp only [Act.put, List.setIfInBounds_toArray, List.set_cons_succ, List.set_cons_zero]
                  refine wpAnyH_take (i := 1) (oi := ⟨some 122, .move (.tmp 4), 41, "law.go:130", #[], none⟩) (v := ?_) rfl (by kernel_rfl) (by kernel_rfl) (by kernel_rfl) (fun _ _ _ h => h) (Or.inl ⟨by rfl, ?_⟩) (by assumption) ?_
                  rotate_left 1
                  · intro w hSw
                    try dsimp only at hSw
                    go_simp
                    all_goals with_reducible rfl
                  try simp only [Act.put, List.setIfInBounds_toArray, List.set_cons_succ, List.set_cons_zero]
                  refine wpAnyH_take (i := 2) (oi := ⟨some 123, .move (.tmp 10), 3, "law.go:130", #[], none⟩) (v := ?_) rfl (by kernel_rfl) (by kernel_rfl) (by kernel_rfl) (fun _ _ _ h => h) (Or.inl ⟨by rfl, ?_⟩) (by assumption) ?_
                  rotate_left 1
                  · intro w hSw
                    try dsimp only at hSw
                    go_simp
                    all_goals with_reducible rfl
                  try simp only [Act.put, List.setIfInBounds_toArray, List.set_cons_succ, List.set_cons_zero]
                  refine wpAnyH_take (i := 3) (oi := ⟨some 124, .indexAddr 41 (.tmp 122) (.tmp 123), 0, "law.go:130", #[⟨1, .data⟩, ⟨2, .data⟩], none⟩) (v := ?_) rfl (by kernel_rfl) (by kernel_rfl) (by kernel_rfl) (fun _ _ _ h => h) (Or.inl ⟨by rfl, ?_⟩) (by assumption) ?_
                  rotate_left 1
                  · intro w hSw
                    try dsimp only at hSw
                    go_simp
                    all_goals with_reducible rfl
                  try simp only [Act.put, List.setIfInBounds_toArray, List.set_cons_succ, List.set_cons_zero]
                  refine wpAnyH_take (i := 4) (oi := ⟨some 125, .fieldAddr 57 (.tmp 124) 0, 0, "law.go:130", #[⟨3, .data⟩], none⟩) (v := ?_) rfl (by kernel_rfl) (by kernel_rfl) (by kernel_rfl) (fun _ _ _ h => h) (Or.inl ⟨by rfl, ?_⟩) (by assumption) ?_
                  rotate_left 1
                  · intro w hSw
                    try dsimp only at hSw
                    go_simp
                    all_goals with_reducible rfl
                  try simp only [Act.put, List.setIfInBounds_toArray, List.set_cons_succ, List.set_cons_zero]
                  refine wpAnyH_take (i := 5) (oi := ⟨some 126, .load 9 (.tmp 125), 9, "law.go:130", #[⟨4, .data⟩], none⟩) (v := ?_) rfl (by kernel_rfl) (by kernel_rfl) (by kernel_rfl) (fun _ _ _ h => h) (Or.inl ⟨by rfl, ?_⟩) (by assumption) ?_
                  rotate_left 1
                  · intro w hSw
                    try dsimp only at hSw
                    go_simp
                    all_goals with_reducible rfl
                  try simp only [Act.put, List.setIfInBounds_toArray, List.set_cons_succ, List.set_cons_zero]
                  refine wpAnyH_take (i := 6) (oi := ⟨some 127, .binOp .add 9 (.tmp 126) (.const (.string { data := #[46] })) 9, 9, "law.go:130", #[⟨5, .data⟩], none⟩) (v := ?_) rfl (by kernel_rfl) (by kernel_rfl) (by kernel_rfl) (fun _ _ _ h => h) (Or.inl ⟨by rfl, ?_⟩) (by assumption) ?_
                  rotate_left 1
                  · intro w hSw
                    try dsimp only at hSw
                    go_simp
                    all_goals with_reducible rfl
                  try simp only [Act.put, List.setIfInBounds_toArray, List.set_cons_succ, List.set_cons_zero]
                  refine wpAnyH_take (i := 7) (oi := ⟨some 128, .move (.tmp 4), 41, "law.go:130", #[], none⟩) (v := ?_) rfl (by kernel_rfl) (by kernel_rfl) (by kernel_rfl) (fun _ _ _ h => h) (Or.inl ⟨by rfl, ?_⟩) (by assumption) ?_
                  rotate_left 1
                  · intro w hSw
                    try dsimp only at hSw
                    go_simp
                    all_goals with_reducible rfl
                  try simp only [Act.put, List.setIfInBounds_toArray, List.set_cons_succ, List.set_cons_zero]
                  refine wpAnyH_take (i := 8) (oi := ⟨some 129, .move (.tmp 10), 3, "law.go:130", #[], none⟩) (v := ?_) rfl (by kernel_rfl) (by kernel_rfl) (by kernel_rfl) (fun _ _ _ h => h) (Or.inl ⟨by rfl, ?_⟩) (by assumption) ?_
                  rotate_left 1
                  · intro w hSw
                    try dsimp only at hSw
                    go_simp
                    all_goals with_reducible rfl
                  try simp only [Act.put, List.setIfInBounds_toArray, List.set_cons_succ, List.set_cons_zero]
                  refine wpAnyH_take (i := 9) (oi := ⟨some 130, .indexAddr 41 (.tmp 128) (.tmp 129), 0, "law.go:130", #[⟨7, .data⟩, ⟨8, .data⟩], none⟩) (v := ?_) rfl (by kernel_rfl) (by kernel_rfl) (by kernel_rfl) (fun _ _ _ h => h) (Or.inl ⟨by rfl, ?_⟩) (by assumption) ?_
                  rotate_left 1
                  · intro w hSw
                    try dsimp only at hSw
                    go_simp
                    all_goals with_reducible rfl
                  try simp only [Act.put, List.setIfInBounds_toArray, List.set_cons_succ, List.set_cons_zero]
                  refine wpAnyH_take (i := 10) (oi := ⟨some 131, .fieldAddr 57 (.tmp 130) 1, 0, "law.go:130", #[⟨9, .data⟩], none⟩) (v := ?_) rfl (by kernel_rfl) (by kernel_rfl) (by kernel_rfl) (fun _ _ _ h => h) (Or.inl ⟨by rfl, ?_⟩) (by assumption) ?_
                  rotate_left 1
                  · intro w hSw
                    try dsimp only at hSw
                    go_simp
                    all_goals with_reducible rfl
                  try simp only [Act.put, List.setIfInBounds_toArray, List.set_cons_succ, List.set_cons_zero]
                  refine wpAnyH_take (i := 11) (oi := ⟨some 132, .load 9 (.tmp 131), 9, "law.go:130", #[⟨10, .data⟩], none⟩) (v := ?_) rfl (by kernel_rfl) (by kernel_rfl) (by kernel_rfl) (fun _ _ _ h => h) (Or.inl ⟨by rfl, ?_⟩) (by assumption) ?_
                  rotate_left 1
                  · intro w hSw
                    try dsimp only at hSw
                    go_simp
                    all_goals with_reducible rfl
                  try simp only [Act.put, List.setIfInBounds_toArray, List.set_cons_succ, List.set_cons_zero]
                  refine wpAnyH_take (i := 12) (oi := ⟨some 133, .binOp .add 9 (.tmp 127) (.tmp 132) 9, 9, "law.go:130", #[⟨6, .data⟩, ⟨11, .data⟩], none⟩) (v := ?_) rfl (by kernel_rfl) (by kernel_rfl) (by kernel_rfl) (fun _ _ _ h => h) (Or.inl ⟨by rfl, ?_⟩) (by assumption) ?_
                  rotate_left 1
                  · intro w hSw
                    try dsimp only at hSw
                    go_simp
                    all_goals with_reducible rfl
                  try simp only [Act.put, List.setIfInBounds_toArray, List.set_cons_succ, List.set_cons_zero]
                  refine wpAnyH_ready (rs := [13]) (by kernel_rfl) (by simp) ?_
                  refine AllReadyH.cons (o := ⟨some 134, .call { callee := .value (.func 21), args := #[.tmp 121, .tmp 133], argTypes := #[41, 9] }, 3, "law.go:130", #[⟨0, .data⟩, ⟨12, .data⟩], none⟩) rfl (fun K hK => ?_) AllReadyH.nil
                  go_simp
                  refine (find_n A2 c2 y' _ HL.out.1 HC.out.2.1 HL.out.2.1 H7.out.drew).mono ?_
                  rintro e w8 ⟨j, rfl, h8, hp⟩
                  refine hK.out _ _ ?_ (fun hHeld => ?_)
                  · exact (HF.out _ h8.below).1
                  clear hK K
                  try simp only [Act.put, List.setIfInBounds_toArray, List.set_cons_succ, List.set_cons_zero]
                  refine wpAnyH_take (i := 14) (oi := ⟨some 13, .assign (.tmp 134), 3, "law.go:130", #[⟨13, .data⟩, ⟨13, .chain⟩, ⟨0, .phase⟩, ⟨1, .phase⟩, ⟨2, .phase⟩, ⟨3, .phase⟩, ⟨4, .phase⟩, ⟨5, .phase⟩, ⟨6, .phase⟩, ⟨7, .phase⟩, ⟨8, .phase⟩, ⟨9, .phase⟩, ⟨10, .phase⟩, ⟨11, .phase⟩, ⟨12, .phase⟩, ⟨13, .phase⟩], none⟩) (v := ?_) rfl (by kernel_rfl) (by kernel_rfl) (by kernel_rfl) (fun _ _ _ h => h) (Or.inl ⟨by rfl, ?_⟩) (by assumption) ?_
                  rotate_left 1
                  · intro w hSw
                    try dsimp only at hSw
                    go_simp
                    all_goals with_reducible rfl
                  try simp only [Act.put, List.setIfInBounds_toArray, List.set_cons_succ, List.set_cons_zero]
                  refine wpAnyH_done (by kernel_rfl) ?_ _
                  obtain ⟨hj0, hj1, hj2⟩ := HU2.out j hp
                  have H8 := Lib.hid h8
                  have t1 : (j < 0) = False := eq_false (by omega)
                  have t2 : ((n1 : Int) ≤ j) = False := eq_false (by omega)
                  have t3 : (0 ≤ j) = True := eq_true hj0
                  obtain ⟨bb, bs, eB, -, -, -⟩ := c_at HC.out.2.1 hj2
                  cases eB
                  have HO := Lib.hid (And.intro (en_one HC.out.1 HU.out.1) (en_one HC.out.2.1 hj2))
                  have hca := HCap.out
                  have w1 : IntKind.i64.wrap (nn + 1) = nn + 1 := by rw [IntKind.wrap_i64]; omega
                  have w2 : (0 ≤ nn + 1) = True := eq_true (by omega)
                  have w3 : (nn + 1 ≤ (c1 : Int)) = True := eq_true (by omega)
                  have w4 : (nn ≤ max (nn + 1) 0) = True := eq_true (by omega)
                  have w5 : (c1 = nn.toNat) = False := eq_false (by omega)
                  have w6 : (nn + 1).toNat - nn.toNat = 1 := by omega
                  have v1 : IntKind.i64.wrap (j + 1) = j + 1 := by rw [IntKind.wrap_i64]; omega
                  have v2 : (0 ≤ j + 1) = True := eq_true (by omega)
                  have v3 : (j + 1 ≤ (c2 : Int)) = True := eq_true (by omega)
                  have v4 : (j ≤ max (j + 1) 0) = True := eq_true (by omega)
                  have v5 : (c2 = j.toNat) = False := eq_false (by omega)
                  have v6 : (j + 1).toNat - j.toNat = 1 := by omega
                  clear hca
                  clear h8 hHeld H7 hp hj2
                  go_wp2
                  refine wp_region_held_drew (S := fun W => True) (by kernel_rfl) ?_ (fun hHeld => ?_)
                  · trivial
                  refine wpAnyH_take (i := 0) (oi := ⟨some 135, .move (.tmp 13), 3, "law.go:131", #[], none⟩) (v := ?_) rfl (by kernel_rfl) (by kernel_rfl) (by kernel_rfl) (fun _ _ _ h => h) (Or.inl ⟨by rfl, ?_⟩) (by assumption) ?_
                  rotate_left 1
                  · intro w hSw
                    try dsimp only at hSw
                    go_simp
                    all_goals with_reducible rfl
                  try simp only [Act.put, List.setIfInBounds_toArray, List.set_cons_succ, List.set_cons_zero]
                  refine wpAnyH_take (i := 1) (oi := ⟨some 136, .binOp .lss 3 (.tmp 135) (.const (.int .i64 0)) 3, 4, "law.go:131", #[⟨0, .data⟩], none⟩) (v := ?_) rfl (by kernel_rfl) (by kernel_rfl) (by kernel_rfl) (fun _ _ _ h => h) (Or.inl ⟨by rfl, ?_⟩) (by assumption) ?_
                  rotate_left 1
                  · intro w hSw
                    try dsimp only at hSw
                    go_simp
                    all_goals with_reducible rfl
                  try simp only [Act.put, List.setIfInBounds_toArray, List.set_cons_succ, List.set_cons_zero]
                  refine wpAnyH_take (i := 2) (oi := ⟨some 137, .move (.tmp 136), 4, "law.go:131", #[⟨1, .data⟩], none⟩) (v := ?_) rfl (by kernel_rfl) (by kernel_rfl) (by kernel_rfl) (fun _ _ _ h => h) (Or.inl ⟨by rfl, ?_⟩) (by assumption) ?_
                  rotate_left 1
                  · intro w hSw
                    try dsimp only at hSw
                    go_simp
                    all_goals with_reducible rfl
                  try simp only [Act.put, List.setIfInBounds_toArray, List.set_cons_succ, List.set_cons_zero]
                  refine wpAnyH_take (i := 3) (oi := ⟨some 138, .move (.tmp 13), 3, "law.go:131", #[⟨2, .guard⟩], some (2, false)⟩) (v := ?_) rfl (by kernel_rfl) (by kernel_rfl) (by kernel_rfl) (fun _ _ _ h => h) (Or.inl ⟨by rfl, ?_⟩) (by assumption) ?_
                  rotate_left 1
                  · intro w hSw
                    try dsimp only at hSw
                    go_simp
                    all_goals with_reducible rfl
                  try simp only [Act.put, List.setIfInBounds_toArray, List.set_cons_succ, List.set_cons_zero]
                  refine wpAnyH_take (i := 4) (oi := ⟨some 139, .move (.tmp 8), 41, "law.go:131", #[⟨2, .guard⟩], some (2, false)⟩) (v := ?_) rfl (by kernel_rfl) (by kernel_rfl) (by kernel_rfl) (fun _ _ _ h => h) (Or.inl ⟨by rfl, ?_⟩) (by assumption) ?_
                  rotate_left 1
                  · intro w hSw
                    try dsimp only at hSw
                    go_simp
                    all_goals with_reducible rfl
                  try simp only [Act.put, List.setIfInBounds_toArray, List.set_cons_succ, List.set_cons_zero]
                  refine wpAnyH_take (i := 5) (oi := ⟨some 140, .call { callee := .builtin .len, args := #[.tmp 139], argTypes := #[41] }, 3, "law.go:131", #[⟨4, .data⟩, ⟨2, .guard⟩], some (2, false)⟩) (v := ?_) rfl (by kernel_rfl) (by kernel_rfl) (by kernel_rfl) (fun _ _ _ h => h) (Or.inl ⟨by rfl, ?_⟩) (by assumption) ?_
                  rotate_left 1
                  · intro w hSw
                    try dsimp only at hSw
                    go_simp
                    all_goals with_reducible rfl
                  try simp only [Act.put, List.setIfInBounds_toArray, List.set_cons_succ, List.set_cons_zero]
                  refine wpAnyH_take (i := 6) (oi := ⟨some 141, .binOp .geq 3 (.tmp 138) (.tmp 140) 3, 4, "law.go:131", #[⟨3, .data⟩, ⟨5, .data⟩, ⟨2, .guard⟩], some (2, false)⟩) (v := ?_) rfl (by kernel_rfl) (by kernel_rfl) (by kernel_rfl) (fun _ _ _ h => h) (Or.inl ⟨by rfl, ?_⟩) (by assumption) ?_
                  rotate_left 1
                  · intro w hSw
                    try dsimp only at hSw
                    go_simp
                    all_goals with_reducible rfl
                  try simp only [Act.put, List.setIfInBounds_toArray, List.set_cons_succ, List.set_cons_zero]
                  refine wpAnyH_take (i := 7) (oi := ⟨some 142, .pick (.tmp 137) (.const (.bool true)) (.tmp 141), 4, "law.go:131", #[⟨2, .data⟩, ⟨6, .data⟩], none⟩) (v := ?_) rfl (by kernel_rfl) (by kernel_rfl) (by kernel_rfl) (fun _ _ _ h => h) (Or.inl ⟨by rfl, ?_⟩) (by assumption) ?_
                  rotate_left 1
                  · intro w hSw
                    try dsimp only at hSw
                    go_simp
                    all_goals with_reducible rfl
                  try simp only [Act.put, List.setIfInBounds_toArray, List.set_cons_succ, List.set_cons_zero]
                  refine wpAnyH_take (i := 8) (oi := ⟨some 143, .move (.tmp 142), 4, "law.go:131", #[⟨7, .data⟩, ⟨2, .chain⟩], none⟩) (v := ?_) rfl (by kernel_rfl) (by kernel_rfl) (by kernel_rfl) (fun _ _ _ h => h) (Or.inl ⟨by rfl, ?_⟩) (by assumption) ?_
                  rotate_left 1
                  · intro w hSw
                    try dsimp only at hSw
                    go_simp
                    all_goals with_reducible rfl
                  try simp only [Act.put, List.setIfInBounds_toArray, List.set_cons_succ, List.set_cons_zero]
                  refine wpAnyH_take (i := 9) (oi := ⟨some 144, .move (.tmp 4), 41, "law.go:131", #[⟨8, .guard⟩], some (8, false)⟩) (v := ?_) rfl (by kernel_rfl) (by kernel_rfl) (by kernel_rfl) (fun _ _ _ h => h) (Or.inl ⟨by rfl, ?_⟩) (by assumption) ?_
                  rotate_left 1
                  · intro w hSw
                    try dsimp only at hSw
                    go_simp
                    all_goals with_reducible rfl
                  try simp only [Act.put, List.setIfInBounds_toArray, List.set_cons_succ, List.set_cons_zero]
                  refine wpAnyH_take (i := 10) (oi := ⟨some 145, .move (.tmp 10), 3, "law.go:131", #[⟨8, .guard⟩], some (8, false)⟩) (v := ?_) rfl (by kernel_rfl) (by kernel_rfl) (by kernel_rfl) (fun _ _ _ h => h) (Or.inl ⟨by rfl, ?_⟩) (by assumption) ?_
                  rotate_left 1
                  · intro w hSw
                    try dsimp only at hSw
                    go_simp
                    all_goals with_reducible rfl
                  try simp only [Act.put, List.setIfInBounds_toArray, List.set_cons_succ, List.set_cons_zero]
                  refine wpAnyH_take (i := 11) (oi := ⟨some 146, .move (.tmp 10), 3, "law.go:131", #[⟨8, .guard⟩], some (8, false)⟩) (v := ?_) rfl (by kernel_rfl) (by kernel_rfl) (by kernel_rfl) (fun _ _ _ h => h) (Or.inl ⟨by rfl, ?_⟩) (by assumption) ?_
                  rotate_left 1
                  · intro w hSw
                    try dsimp only at hSw
                    go_simp
                    all_goals with_reducible rfl
                  try simp only [Act.put, List.setIfInBounds_toArray, List.set_cons_succ, List.set_cons_zero]
                  refine wpAnyH_take (i := 12) (oi := ⟨some 147, .binOp .add 3 (.tmp 146) (.const (.int .i64 1)) 3, 3, "law.go:131", #[⟨11, .data⟩, ⟨8, .guard⟩], some (8, false)⟩) (v := ?_) rfl (by kernel_rfl) (by kernel_rfl) (by kernel_rfl) (fun _ _ _ h => h) (Or.inl ⟨by rfl, ?_⟩) (by assumption) ?_
                  rotate_left 1
                  · intro w hSw
                    try dsimp only at hSw
                    go_simp
                    all_goals with_reducible rfl
                  try simp only [Act.put, List.setIfInBounds_toArray, List.set_cons_succ, List.set_cons_zero]
                  refine wpAnyH_take (i := 13) (oi := ⟨some 148, .slice 41 (.tmp 144) (some (.tmp 145)) (some (.tmp 147)) none, 41, "law.go:131", #[⟨9, .data⟩, ⟨10, .data⟩, ⟨12, .data⟩, ⟨8, .guard⟩], some (8, false)⟩) (v := ?_) rfl (by kernel_rfl) (by kernel_rfl) (by kernel_rfl) (fun _ _ _ h => h) (Or.inl ⟨by rfl, ?_⟩) (by assumption) ?_
                  rotate_left 1
                  · intro w hSw
                    try dsimp only at hSw
                    go_simp
                    all_goals with_reducible rfl
                  try simp only [Act.put, List.setIfInBounds_toArray, List.set_cons_succ, List.set_cons_zero]
                  refine wpAnyH_take (i := 14) (oi := ⟨some 149, .move (.tmp 8), 41, "law.go:131", #[⟨8, .guard⟩], some (8, false)⟩) (v := ?_) rfl (by kernel_rfl) (by kernel_rfl) (by kernel_rfl) (fun _ _ _ h => h) (Or.inl ⟨by rfl, ?_⟩) (by assumption) ?_
                  rotate_left 1
                  · intro w hSw
                    try dsimp only at hSw
                    go_simp
                    all_goals with_reducible rfl
                  try simp only [Act.put, List.setIfInBounds_toArray, List.set_cons_succ, List.set_cons_zero]
                  refine wpAnyH_take (i := 15) (oi := ⟨some 150, .move (.tmp 13), 3, "law.go:131", #[⟨8, .guard⟩], some (8, false)⟩) (v := ?_) rfl (by kernel_rfl) (by kernel_rfl) (by kernel_rfl) (fun _ _ _ h => h) (Or.inl ⟨by rfl, ?_⟩) (by assumption) ?_
                  rotate_left 1
                  · intro w hSw
                    try dsimp only at hSw
                    go_simp
                    all_goals with_reducible rfl
                  try simp only [Act.put, List.setIfInBounds_toArray, List.set_cons_succ, List.set_cons_zero]
                  refine wpAnyH_take (i := 16) (oi := ⟨some 151, .move (.tmp 13), 3, "law.go:131", #[⟨8, .guard⟩], some (8, false)⟩) (v := ?_) rfl (by kernel_rfl) (by kernel_rfl) (by kernel_rfl) (fun _ _ _ h => h) (Or.inl ⟨by rfl, ?_⟩) (by assumption) ?_
                  rotate_left 1
                  · intro w hSw
                    try dsimp only at hSw
                    go_simp
                    all_goals with_reducible rfl
                  try simp only [Act.put, List.setIfInBounds_toArray, List.set_cons_succ, List.set_cons_zero]
                  refine wpAnyH_take (i := 17) (oi := ⟨some 152, .binOp .add 3 (.tmp 151) (.const (.int .i64 1)) 3, 3, "law.go:131", #[⟨16, .data⟩, ⟨8, .guard⟩], some (8, false)⟩) (v := ?_) rfl (by kernel_rfl) (by kernel_rfl) (by kernel_rfl) (fun _ _ _ h => h) (Or.inl ⟨by rfl, ?_⟩) (by assumption) ?_
                  rotate_left 1
                  · intro w hSw
                    try dsimp only at hSw
                    go_simp
                    all_goals with_reducible rfl
                  try simp only [Act.put, List.setIfInBounds_toArray, List.set_cons_succ, List.set_cons_zero]
                  refine wpAnyH_take (i := 18) (oi := ⟨some 153, .slice 41 (.tmp 149) (some (.tmp 150)) (some (.tmp 152)) none, 41, "law.go:131", #[⟨14, .data⟩, ⟨15, .data⟩, ⟨17, .data⟩, ⟨8, .guard⟩], some (8, false)⟩) (v := ?_) rfl (by kernel_rfl) (by kernel_rfl) (by kernel_rfl) (fun _ _ _ h => h) (Or.inl ⟨by rfl, ?_⟩) (by assumption) ?_
                  rotate_left 1
                  · intro w hSw
                    try dsimp only at hSw
                    go_simp
                    all_goals with_reducible rfl
                  try simp only [Act.put, List.setIfInBounds_toArray, List.set_cons_succ, List.set_cons_zero]
                  refine wpAnyH_ready (rs := [19]) (by kernel_rfl) (by simp) ?_
                  refine AllReadyH.cons (o := ⟨some 154, .call { callee := .value (.func 22), args := #[.tmp 148, .tmp 153], argTypes := #[41, 41] }, 4, "law.go:131", #[⟨13, .data⟩, ⟨18, .data⟩, ⟨8, .chain⟩, ⟨8, .guard⟩], some (8, false)⟩) rfl (fun K hK => ?_) AllReadyH.nil
                  go_simp
                  refine (lsame_one (some (aa.add (nn.toNat * 18))) _ (some (bb.add (j.toNat * 18))) _ u H8.out.drew HO.out.1 HO.out.2).mono ?_
                  rintro e w9 ⟨rfl, h9⟩
                  refine hK.out _ _ ?_ (fun hHeld => ?_)
                  · trivial
                  clear hK K
                  try simp only [Act.put, List.setIfInBounds_toArray, List.set_cons_succ, List.set_cons_zero]
                  refine wpAnyH_take (i := 20) (oi := ⟨some 155, .unOp .not 4 (.tmp 154), 4, "law.go:131", #[⟨19, .data⟩, ⟨8, .guard⟩], some (8, false)⟩) (v := ?_) rfl (by kernel_rfl) (by kernel_rfl) (by kernel_rfl) (fun _ _ _ h => h) (Or.inl ⟨by rfl, ?_⟩) (by assumption) ?_
                  rotate_left 1
                  · intro w hSw
                    try dsimp only at hSw
                    go_simp
                    all_goals with_reducible rfl
                  try simp only [Act.put, List.setIfInBounds_toArray, List.set_cons_succ, List.set_cons_zero]
                  refine wpAnyH_take (i := 21) (oi := ⟨some 156, .pick (.tmp 143) (.const (.bool true)) (.tmp 155), 4, "law.go:131", #[⟨8, .data⟩, ⟨20, .data⟩], none⟩) (v := ?_) rfl (by kernel_rfl) (by kernel_rfl) (by kernel_rfl) (fun _ _ _ h => h) (Or.inl ⟨by rfl, ?_⟩) (by assumption) ?_
                  rotate_left 1
                  · intro w hSw
                    try dsimp only at hSw
                    go_simp
                    all_goals with_reducible rfl
                  try simp only [Act.put, List.setIfInBounds_toArray, List.set_cons_succ, List.set_cons_zero]
                  refine wpAnyH_done (by kernel_rfl) ?_ _
                  have H9 := Lib.hid h9
                  clear h9 hHeld H8 t1 t2 t3 hj0 hj1 w1 w2 w3 w4 w5 w6 v1 v2 v3 v4 v5 v6
                  have hcb := HCap.out
                  go_wp2
                  exact ⟨⟨nn + 1, k + 1, by omega, by omega, by omega, by go_num, by go_num, H9, Lib.hid (by have := HN.out; omega)⟩, by simp only [intOf]; omega⟩
                · have hlt' : (k < (r.df.length : Int)) = False := eq_false hlk
                  go_wp2
                  exact ⟨⟨nn, x + 1, hn0, by omega, by omega, rfl, by go_num, HS, Lib.hid (by rw [show (x + 1).toNat = x.toNat + 1 by omega, nms_next HG.out, HN.out, show k.toNat = r.df.length by omega])⟩, by simp only [intOf]; omega⟩
            · have hlt' : (x < (l.length : Int)) = False := eq_false hlt
              have hend : nn = n1 := by
                have h1 := HN.out
                rw [List.take_of_length_le (by omega), HB.out.2] at h1
                omega
              subst hend
              have y9 : ((n1 : Int) == n1) = true := beq_self_eq_true _
              go_wp2_with fail
              refine (finite_n A1 c1 y HC.out.2.2.2.1 HC.out.1 HC.out.2.2.2.2 (by rw [← HC.out.2.2.2.1]; exact HB.out.1) HS.out).mono ?_
              rintro e w9 ⟨rfl, h9⟩
              rw [HQ.out.fin]
              have H9 := Lib.hid h9
              clear h9
              go_wp2
              go_ret
              exact ⟨rfl, HE.out _ H9.out⟩
end Go.Proofs.Ytbjddomocggjmaa.Sc
