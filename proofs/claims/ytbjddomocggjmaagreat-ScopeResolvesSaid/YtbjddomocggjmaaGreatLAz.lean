/- The law ScopeResolves, of its parameter. -/
import Derived.Test.YtbjddomocggjmaaGreatLAm
import Derived.Test.YtbjddomocggjmaaGreatLAp
import Derived.Test.YtbjddomocggjmaaGreatLAu
import Derived.Test.YtbjddomocggjmaaGreatLAy
section
namespace Go.Proofs.YtbjddomocggjmaaGreat.Sc
open Go.RowKit Go.ChangeShapes Go.WideShapes Go.Proofs.YtbjddomocggjmaaGreat.Sep
open Go.Proofs.YtbjddomocggjmaaGreatW.PrintWords
variable {B : Nat} {w0 w : World} {R : HP}
theorem row_CR {α : Type} {d : Kd α} {B : Nat} {e : TypeId} {v : Value} {n : Nat} {l : List α} {xs : List Value} (hz : 0 < d.sz) (hn : n = l.length) (h : St B w0 w (RowV e d.sz v n xs • (Vw w0 B (fun W => Reps (d.K W) d.sz l xs) • R))) : ∃ A c,v = .slice A l.length c ∧ d.C w A l.length l := by
 obtain ⟨A,c,e1, -, -,h2⟩ := Vw.get (Vw.row hz hn h)
 exact ⟨A,c,e1,h2⟩
theorem lsame_n {B : Nat} (A : Option Addr) (c : Nat) (A' : Option Addr) (c' : Nat) (l : List En) {n : Nat} (hn : n = l.length) (h : St B w0 w R) (hC : kEn.C w A l.length l) (hC' : kEn.C w A' l.length l) :
  Calls Tryz.prog 8 #[.slice A n c,.slice A' n c'] w fun e w' => e = .returned (.bool true) ∧ St B w0 w' R := by
 subst hn
 exact lsame_at A c A' c' l h hC hC'
set_option maxHeartbeats 16000000 in
set_option maxRecDepth 100000 in
theorem lresolves_calls (A : Option Addr) (c : Nat) (l : List Md) (h : S w0 w R) (hC : kMd.C w0 A l.length l) (ho : ∀ m ∈ l,oMd m) :
  Calls Tryz.prog 3 #[.slice A l.length c] w fun e w' => e = .returned (.bool true) ∧ S w0 w' R := by
 have hl : l.length ≤ 9223372036854775807 := hC.2.1
 have HA := Lib.hid (And.intro hC ho)
 have H := Lib.hid h
 clear h hC ho
 go_enter Tryz.func3,Tryz.ntmps3
 go_wp2_with fail
 refine (awake_calls H.out).mono ?_
 rintro e w1 ⟨rfl,h1⟩
 have H1 := Lib.hid h1
 clear h1 H
 go_wp2_with fail
 refine (lfew_calls A c l 80 (by decide) (by decide) H1.out HA.out.1 HA.out.2).mono ?_
 rintro e w2 ⟨b,rfl,h2, -⟩
 have H2 := Lib.hid h2
 clear h2 H1
 cases b with
 | false =>
  go_wp2
  go_ret
  exact ⟨rfl,H2.out⟩
 | true =>
  have HM := Lib.hid (Kd.C_below HA.out.1 H2.out.below)
  go_wp2_with fail
  refine (resolve_calls (w0 := w2) (R := emp) A c l (St.start w2) HM.out HA.out.2).mono ?_
  rintro e w3 ⟨A1,n1,c1,xk1,he,hn1,h3⟩
  subst he
  have H3 := Lib.hid h3
  have HN1 := Lib.hid hn1
  clear h3 hn1
  go_wp2_with fail
  refine (rresolve_calls (w0 := w2) A c l H3.out HM.out HA.out.2).mono ?_
  rintro e w4 ⟨A2,n2,c2,xk2,he,hn2,h4⟩
  subst he
  obtain rfl : n2 = n1 := hn2.trans HN1.out.symm
  obtain ⟨_,_,ea,hca⟩ := row_CR (d := kEn) (l := (resP l).2) (by decide) HN1.out h4.drop.drop
  obtain ⟨_,_,eb,hcb⟩ := row_CR (d := kEn) (l := (resP l).2) (by decide) hn2 h4
  simp only [Value.slice.injEq] at ea eb
  obtain ⟨rfl, -,rfl⟩ := ea
  obtain ⟨rfl, -,rfl⟩ := eb
  have HS := Lib.hid (lsame_n A1 c1 A2 c2 (resP l).2 HN1.out h4 hca hcb)
  have y0 : ((resP l).1 == (resP l).1) = true := beq_self_eq_true _
  clear hn2 hca hcb h4 H3
  generalize (resP l).1 = r1 at *
  go_wp2_with fail
  refine HS.out.mono ?_
  rintro e w5 ⟨rfl,h5⟩
  have H5 := Lib.hid (nest H2.out h5).drop
  clear h5 HS
  go_wp2
  go_ret
  exact ⟨rfl,H5.out⟩
end Go.Proofs.YtbjddomocggjmaaGreat.Sc
end
section
namespace Go.Proofs.YtbjddomocggjmaaGreat.Sc
open Go.RowKit Go.ChangeShapes Go.WideShapes Go.Proofs.YtbjddomocggjmaaGreat.Sep
open Go.Proofs.YtbjddomocggjmaaGreatW.PrintWords
variable {B : Nat} {w0 w : World} {R : HP}
section
variable {H : Type} {enc : TypeId × Value → H} {W : World} {base : Nat} {spare : Nat → Bool} {held : Bool}
theorem open_mdsB {v : Value} {d : DataW H} {p : List MemPlace} (h : DataW.Trod enc Tryz.prog W base spare held 22 v d p) (hw : (d.weights Tryz.prog 22).all (· ≤ reachBytes) = true) (hv : ∃ a len cap,v = .slice a len cap) :
  ∃ A c l,v = .slice A l.length c ∧ kMd.C W A l.length l ∧ (∀ m ∈ l,oMd m) ∧ l.length * 72 ≤ M := by
 obtain ⟨a,len,cap,rfl⟩ := hv
 obtain ⟨fuel,hf⟩ := h
 have hf' : DataW.trod enc Tryz.prog W base spare held fuel 22 [.slice a len cap] = some (d,p) := hf
 obtain ⟨l,hL,b⟩ := open_listW (K := fun W cs x => kMd.K W x cs ∧ oMd x) (size := 4) (Bt := 72) Tryz.underlying22 (by kernel_rfl) (by decide) (by kernel_rfl) (fun n _ cs y hl hy hw => open_md n cs y hl hy hw) hf' hw
 obtain ⟨rfl,g1,g2,k1,o1⟩ := c_of_slice (d := kMd) rfl hL
 exact ⟨a,cap,l,rfl,k1,o1,b⟩
end
theorem law_resolves (A : Option Addr) (c : Nat) (l : List Md) (W : World) (hC : kMd.C W A l.length l) (ho : ∀ m ∈ l,oMd m) :
  Calls Tryz.prog 3 #[.slice A l.length c] W fun e w' => e = .returned (.bool true) ∧ Below W.heap.size W w' :=
 (lresolves_calls (w0 := W) (R := emp) A c l (St.start W) hC ho).mono fun _ _ ⟨h1,h2⟩ => ⟨h1,h2.below⟩
end Go.Proofs.YtbjddomocggjmaaGreat.Sc
end
