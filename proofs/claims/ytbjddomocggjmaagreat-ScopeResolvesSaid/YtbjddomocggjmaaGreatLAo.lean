/- The example of awake: what it comes to, plain. -/
import Derived.KernelRfl
import Derived.Test.YtbjddomocggjmaaGreatLAf
import Derived.Test.YtbjddomocggjmaaGreatLAn
section
namespace Go.Proofs.YtbjddomocggjmaaGreat.Sc
open Go.RowKit Go.ChangeShapes Go.WideShapes Go.Proofs.YtbjddomocggjmaaGreat.Sep
open Go.Proofs.YtbjddomocggjmaaGreatW.PrintWords
variable {B : Nat} {w0 w : World} {R : HP}
def nmB (nm : ByteArray) (x : En) : Bool := (dotB x.m x.n).toList == nm.toList
theorem find_tells (l : List En) (nm : ByteArray) (ho : ∀ x ∈ l,oS x.m ∧ oS x.n) (b : Nat) : Tells kEn w0 (Blk b (.cells #[.string nm] 9) • R) 25 #[.pointer (some ⟨b,0,none⟩)] l (nmB nm) := by
 intro W x h hx cs hK
 obtain ⟨ts,hE⟩ := en_cells hK
 have H := Lib.hid (h.alloc (.cells cs.toArray 46))
 have d0 := H.out.cell 0 (v := .string x.m) (by rw [List.getElem?_toArray]; exact hE.m)
 have d1 := H.out.cell 1 (v := .string x.n) (by rw [List.getElem?_toArray]; exact hE.n)
 have e0 := H.out.two.cell 0 rfl
 have z1 : x.m.size ≤ 140737488355328 := (ho x hx).1
 have z2 : x.n.size ≤ 140737488355328 := (ho x hx).2
 have z3 : (x.m ++ (⟨#[46]⟩ : ByteArray)).size = x.m.size + 1 := ByteArray.size_append
 have HN : Hid (nmB nm x = ((x.m ++ ⟨#[46]⟩ ++ x.n).toList == nm.toList)) := Lib.hid rfl
 clear h hK ho hx hE
 show Calls Tryz.prog 25 #[.agg cs.toArray,.pointer (some ⟨b,0,none⟩)] W _
 go_enter Tryz.func25,Tryz.ntmps25
 go_wp2
 go_ret
 exact ⟨by rw [HN.out]; rfl,H.out.drop⟩
theorem find_calls (A : Option Addr) (c : Nat) (l : List En) (nm : ByteArray) (h : S w0 w R) (hC : kEn.C w0 A l.length l) (ho : ∀ x ∈ l,oS x.m ∧ oS x.n) :
  Calls Tryz.prog 9 #[.slice A l.length c,.string nm] w fun e w' => ∃ i : Int,e = .returned (.int .i64 i) ∧ S w0 w' R ∧ Place (nmB nm) l i := by
 have eg : ∀ args w,(callFunc 25 args).run Tryz.prog w = .ok (.enter 25 args) w := enters_of Tryz.func25 (by kernel_rfl) rfl
 have H := Lib.hid (h.alloc (.cells #[.string nm] 9))
 have HI := Lib.hid (index_ens _ _ eg _ A c l hC H.out (find_tells l nm ho w.heap.size))
 clear h hC ho eg
 go_enter Tryz.func9,Tryz.ntmps9
 go_wp2_with fail
 refine HI.out.mono ?_
 rintro e w1 ⟨i,rfl,h1,hp⟩
 have H1 := Lib.hid h1
 have HP := Lib.hid hp
 clear h1 hp
 go_wp2
 go_ret
 exact ⟨i,rfl,H1.out.drop,HP.out⟩
end Go.Proofs.YtbjddomocggjmaaGreat.Sc
end
section
namespace Go.Proofs.YtbjddomocggjmaaGreat.Sc
open Go.RowKit Go.ChangeShapes Go.WideShapes Go.Proofs.YtbjddomocggjmaaGreat.Sep
open Go.Proofs.YtbjddomocggjmaaGreatW.PrintWords
variable {B : Nat} {w0 w : World} {R : HP}
def tyK (k : Int) (s : ByteArray) : Ty := ⟨k,s,zCon,false,⟨#[]⟩,[],[],[],[],[]⟩
def mA (s : ByteArray) : Md := ⟨⟨#[77]⟩,false,[],[⟨⟨#[65]⟩,tyK 11 s⟩,⟨⟨#[66]⟩,tyK 4 ⟨#[]⟩⟩]⟩
def eA : List En := [⟨⟨#[77]⟩,⟨#[65]⟩,false,tyK 11 ⟨#[77,46,66]⟩⟩,⟨⟨#[77]⟩,⟨#[66]⟩,false,tyK 4 ⟨#[]⟩⟩]
theorem mdB_B : mdB (mA ⟨#[66]⟩) = true := by kernel_rfl
theorem dup_B : dupB [mA ⟨#[66]⟩] = false := by kernel_rfl
theorem all_B : allP [mA ⟨#[66]⟩] = some eA := by kernel_rfl
theorem fin_B : finB eA = true := by kernel_rfl
end Go.Proofs.YtbjddomocggjmaaGreat.Sc
end
