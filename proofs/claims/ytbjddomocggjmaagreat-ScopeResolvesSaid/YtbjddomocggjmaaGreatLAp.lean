/- awake of the law: walked. -/
import Derived.Deep.Cut
import Derived.Test.YtbjddomocggjmaaGreatLAo
namespace Go.Proofs.YtbjddomocggjmaaGreat.Sc
open Go.RowKit Go.ChangeShapes Go.WideShapes Go.Proofs.YtbjddomocggjmaaGreat.Sep
open Go.Proofs.YtbjddomocggjmaaGreatW.PrintWords
variable {B : Nat} {w0 w : World} {R : HP}
theorem c_empty {α : Type} (d : Kd α) (W : World) (A : Option Addr) : d.C W A 0 [] := ⟨rfl,by omega,fun h => absurd h (by omega)⟩
theorem blk_C {α : Type} {d : Kd α} {W : World} {g : Nat} {cs : List Value} {e : TypeId} {fr : Nat × Nat} (h : W.heap[g]? = some (.cells cs.toArray e fr)) {l : List α} (hR : Reps (d.K W) d.sz l cs) (hl : l.length ≤ 1000) : d.C W (some ⟨g,0,none⟩) l.length l := by
 refine ⟨rfl,by omega,fun _ => ⟨_,rfl,fun j p hp => ⟨_, ?_,hR.2 j p hp,fun i u hu => ?_⟩⟩⟩
 ·have hj := (List.getElem?_eq_some_iff.1 hp).1
  have : j * d.sz + d.sz ≤ cs.length := by rw [hR.1, ← Nat.succ_mul]; exact Nat.mul_le_mul_right _ hj
  rw [List.length_take,List.length_drop]
  omega
 ·rw [List.getElem?_take] at hu
  split at hu
  ·rw [List.getElem?_drop] at hu
   rw [Sep.add_plain,cell_of_row W g _ _ e fr h,List.getElem?_toArray]
   exact hu
  ·cases hu
theorem tyK_mk (W : World) (k : Int) (s : ByteArray) (A7 A10 A11 A12 A13 A14 : Option Addr) (c7 c10 c11 c12 c13 c14 : Nat) : kTy.K W (tyK k s) [.int .i64 k,.string s,.int .i64 0,.int .i64 0,.int .i64 0,.bool false,.bool false,.slice A7 0 c7,.bool false,.string ⟨#[]⟩,.slice A10 0 c10,.slice A11 0 c11,.slice A12 0 c12,.slice A13 0 c13,.slice A14 0 c14] :=
 kTy_mk W (tyK k s) (Nat.zero_le _) (c_empty _ _ _) (Nat.zero_le _) (c_empty _ _ _) (Nat.zero_le _) (c_empty _ _ _) (Nat.zero_le _) (c_empty _ _ _) (Nat.zero_le _) (c_empty _ _ _) (Nat.zero_le _) (c_empty _ _ _)
theorem tyK_any {W W' : World} {k : Int} {s : ByteArray} {ts : List Value} (h : kTy.K W (tyK k s) ts) : kTy.K W' (tyK k s) ts := by
 obtain ⟨A7,c7,A10,c10,A11,c11,A12,c12,A13,c13,A14,c14,rfl, -⟩ := kTy_open h
 exact tyK_mk W' k s A7 A10 A11 A12 A13 A14 c7 c10 c11 c12 c13 c14
theorem eA_any {W W' : World} {xk : List Value} (h : Reps (kEn.K W) 18 eA xk) : Reps (kEn.K W') 18 eA xk := by
 refine ⟨h.1,fun j p hp => ?_⟩
 have h1 := h.2 j p hp
 match j,hp with
 | 0,hp =>
  cases hp
  obtain ⟨ts,e,hT⟩ := kEn_open h1
  rw [e]
  exact kEn_mk W' _ (tyK_any hT)
 | 1,hp =>
  cases hp
  obtain ⟨ts,e,hT⟩ := kEn_open h1
  rw [e]
  exact kEn_mk W' _ (tyK_any hT)
theorem eA_cells {W : World} {xk : List Value} (h : Reps (kEn.K W) 18 eA xk) : xk.length = 36 ∧ xk[4]? = some (.string ⟨#[77,46,66]⟩) ∧ xk[19]? = some (.string ⟨#[66]⟩) := by
 refine ⟨h.1, ?_, ?_⟩
 ·have h1 := h.2 0 _ rfl
  obtain ⟨ts,e,hT⟩ := kEn_open h1
  obtain ⟨A7,c7,A10,c10,A11,c11,A12,c12,A13,c13,A14,c14,rfl, -⟩ := kTy_open hT
  have : ((xk.drop (0 * 18)).take 18)[4]? = some (.string ⟨#[77,46,66]⟩) := by rw [e]; rfl
  rwa [List.getElem?_take,if_pos (by omega),List.getElem?_drop] at this
 ·have h1 := h.2 1 _ rfl
  obtain ⟨ts,e,hT⟩ := kEn_open h1
  have : ((xk.drop (1 * 18)).take 18)[1]? = some (.string ⟨#[66]⟩) := by rw [e]; rfl
  rwa [List.getElem?_take,if_pos (by omega),List.getElem?_drop] at this
def dfC (s : ByteArray) : List Value := [.string ⟨#[65]⟩,.int .i64 11,.string s,.int .i64 0,.int .i64 0,.int .i64 0,.bool false,.bool false,.slice none 0 0,.bool false,.string ⟨#[]⟩,.slice none 0 0,.slice none 0 0,.slice none 0 0,.slice none 0 0,.slice none 0 0,.string ⟨#[66]⟩,.int .i64 4,.string ⟨#[]⟩,.int .i64 0,.int .i64 0,.int .i64 0,.bool false,.bool false,.slice none 0 0,.bool false,.string ⟨#[]⟩,.slice none 0 0,.slice none 0 0,.slice none 0 0,.slice none 0 0,.slice none 0 0]
def mdC (g : Nat) : List Value := [.string ⟨#[77]⟩,.bool false,.slice none 0 0,.slice (some ⟨g,0,none⟩) 2 2]
theorem mA_C {W : World} {g g2 : Nat} {s : ByteArray} {e1 e2 : TypeId} {f1 f2 : Nat × Nat} (h1 : W.heap[g]? = some (.cells (dfC s).toArray e1 f1)) (h2 : W.heap[g2]? = some (.cells (mdC g).toArray e2 f2)) : kMd.C W (some ⟨g2,0,none⟩) [mA s].length [mA s] := by
 refine blk_C h2 ?_ (by simp)
 have hd : kDf.C W (some ⟨g,0,none⟩) (mA s).df.length (mA s).df := blk_C h1 (by
  have r1 : Reps (kDf.K W) 16 [(⟨⟨#[65]⟩,tyK 11 s⟩ : Df)] ((dfC s).take 16) := Reps.snoc (ps := []) (cs := []) (Reps.none _ _) (kDf_mk W ⟨⟨#[65]⟩,tyK 11 s⟩ (tyK_mk W 11 s none none none none none none 0 0 0 0 0 0)) rfl
  exact Reps.snoc r1 (kDf_mk W ⟨⟨#[66]⟩,tyK 4 ⟨#[]⟩⟩ (tyK_mk W 4 ⟨#[]⟩ none none none none none none 0 0 0 0 0 0)) rfl) (show 2 ≤ 1000 by decide)
 exact Reps.snoc (ps := []) (cs := []) (Reps.none _ _) (kMd_mk W (mA s) (A2 := none) (c2 := 0) (Nat.zero_le _) (c_empty _ _ _) (A3 := some ⟨g,0,none⟩) (c3 := 2) (Nat.le_refl _) hd) rfl
theorem mA_o {s : ByteArray} (hs : s.size ≤ 1) : ∀ m ∈ [mA s],oMd m := by
 have ht : ∀ (k : Int) (s : ByteArray),i64 k → s.size ≤ 1 → oTy (tyK k s) := fun k s hk hs d => by
  cases d with
  | zero => trivial
  | succ d =>
   have hz : ∀ d,oC d zCon := fun d => by
    cases d with
    | zero => trivial
    | succ d => exact ⟨by unfold i64; decide,by unfold i64; decide,by unfold i64; decide,by decide,fun x hx => by cases hx⟩
   refine ⟨hk, ?_,hz,(by decide : (0 : Nat) ≤ 140737488355328), ?_, ?_, ?_, ?_, ?_, ?_⟩
   ·simp only [oS,M,tyK]; omega
   all_goals simp [oL,M,tyK]
 intro m hm
 rw [List.mem_singleton.1 hm]
 refine ⟨by unfold oS M; exact (by decide : (⟨#[77]⟩ : ByteArray).size ≤ 140737488355328),⟨Nat.zero_le _,fun y hy => by cases hy⟩,(by decide : 2 ≤ M),fun d hd => ?_⟩
 simp only [mA,List.mem_cons,List.not_mem_nil,or_false] at hd
 rcases hd with rfl | rfl
 ·exact ⟨(by decide : (1 : Nat) ≤ 140737488355328),ht 11 s (by unfold i64; omega) hs⟩
 ·exact ⟨by unfold oS M; decide,ht 4 ⟨#[]⟩ (by unfold i64; omega) (by decide)⟩
theorem res_B : resP [mA ⟨#[66]⟩] = (0,eA) := by
 rw [res_all (bad_false.2 ⟨by simp,fun m hm => by rw [List.mem_singleton.1 hm]; exact mdB_B⟩) dup_B,all_B]
 exact if_pos fin_B
theorem nm_B : nmB ⟨#[77,46,66]⟩ ⟨⟨#[77]⟩,⟨#[65]⟩,false,tyK 11 ⟨#[77,46,66]⟩⟩ = false ∧ nmB ⟨#[77,46,66]⟩ ⟨⟨#[77]⟩,⟨#[66]⟩,false,tyK 4 ⟨#[]⟩⟩ = true ∧ nmB ⟨#[77,46,67]⟩ ⟨⟨#[77]⟩,⟨#[65]⟩,false,tyK 11 ⟨#[77,46,66]⟩⟩ = false ∧ nmB ⟨#[77,46,67]⟩ ⟨⟨#[77]⟩,⟨#[66]⟩,false,tyK 4 ⟨#[]⟩⟩ = false := by
 unfold nmB
 simp only [Lib.toList_data]
 decide +kernel
theorem place_B {i : Int} (h : Place (nmB ⟨#[77,46,66]⟩) eA i) : i = 1 := by
 obtain ⟨n1,n2, -⟩ := nm_B
 rcases h with ⟨k,x,rfl,hk,hp,hb⟩ | ⟨rfl,hb⟩
 ·match k,hk with
  | 0,hk => cases hk; rw [n1] at hp; cases hp
  | 1,hk => rfl
 ·have := hb ⟨⟨#[77]⟩,⟨#[66]⟩,false,tyK 4 ⟨#[]⟩⟩ (by simp [eA])
  rw [n2] at this
  cases this
theorem place_C {i : Int} (h : Place (nmB ⟨#[77,46,67]⟩) eA i) : i = -1 := by
 obtain ⟨-, -,n3,n4⟩ := nm_B
 rcases h with ⟨k,x,rfl,hk,hp,hb⟩ | ⟨rfl,hb⟩
 ·match k,hk with
  | 0,hk => cases hk; rw [n3] at hp; cases hp
  | 1,hk => cases hk; rw [n4] at hp; cases hp
 ·rfl
theorem mA_has : ∀ x ∈ eA,oS x.m ∧ oS x.n := by
 intro x hx
 simp only [eA,List.mem_cons,List.not_mem_nil,or_false] at hx
 rcases hx with rfl | rfl
 ·exact ⟨(by decide : (1 : Nat) ≤ 140737488355328),(by decide : (1 : Nat) ≤ 140737488355328)⟩
 ·exact ⟨(by decide : (1 : Nat) ≤ 140737488355328),(by decide : (1 : Nat) ≤ 140737488355328)⟩
theorem res_A : (resP [mA ⟨#[65]⟩]).1 = 9 := by kernel_rfl
theorem resolve_at (A : Option Addr) (c : Nat) (l : List Md) (h : St B w0 w R) (hC : kMd.C w A l.length l) (ho : ∀ m ∈ l,oMd m) :
  Calls Tryz.prog 6 #[.slice A l.length c] w fun e w' => ∃ A' n' c' xk,e = .returned (.tuple #[.slice A' n' c',.int .i64 (resP l).1]) ∧ n' = (resP l).2.length ∧ Reps (kEn.K w') 18 (resP l).2 xk ∧
   St B w0 w' (RowV 46 18 (.slice A' n' c') n' xk • (Vw w w.heap.size (fun W => Reps (kEn.K W) 18 (resP l).2 xk) • R)) :=
 (resolve_calls (w0 := w) (R := emp) A c l (St.start w) hC ho).mono fun _ _ ⟨A',n',c',xk,h1,h2,h3⟩ => ⟨A',n',c',xk,h1,h2,Vw.get h3.two,(St.assoc (St.assoc (nest h h3)).two).two.drop.two⟩
theorem find_at (A : Option Addr) (c : Nat) (l : List En) (nm : ByteArray) (h : St B w0 w R) (hC : kEn.C w A l.length l) (ho : ∀ x ∈ l,oS x.m ∧ oS x.n) :
  Calls Tryz.prog 9 #[.slice A l.length c,.string nm] w fun e w' => ∃ i : Int,e = .returned (.int .i64 i) ∧ St B w0 w' R ∧ Place (nmB nm) l i :=
 (find_calls (w0 := w) (R := emp) A c l nm (St.start w) hC ho).mono fun _ _ ⟨i,h1,h2,h3⟩ => ⟨i,h1,(nest h h2).drop,h3⟩
theorem eA_C {A' : Option Addr} {c' : Nat} {xk : List Value} (h : St B w0 w (RowV 46 18 (.slice A' 2 c') 2 xk • R)) {W : World} (hR : Reps (kEn.K W) 18 eA xk) : kEn.C w A' eA.length eA := by
 obtain ⟨A,c,e, -, -,hC⟩ := Vw.get (B := B) (w0 := w0) (Vw.row (d := kEn) (l := eA) (by decide) rfl (Vw.base h (p := fun W => Reps (kEn.K W) 18 eA xk) fun wv _ => eA_any hR).two)
 simp only [Value.slice.injEq] at e
 obtain ⟨rfl, -, -⟩ := e
 exact hC
set_option maxHeartbeats 16000000 in
set_option maxRecDepth 100000 in
theorem awake_calls (h : St B w0 w R) : Calls Tryz.prog 4 #[] w fun e w' => e = .returned (.bool true) ∧ St B w0 w' R := by
 generalize hg : w.heap.size = g
 have H1 := Lib.hid (alloc_at (n := g + 1) (alloc_at (n := g) h (.cells (dfC ⟨#[66]⟩).toArray 40) hg.symm) (.cells #[.string ⟨#[]⟩,.bool false,.slice none 0 0,.slice none 0 0] 44) (by simp [hg]))
 clear h
 go_enter Tryz.func4,Tryz.ntmps4
 go_wp2_with (refine held_store _ _ _ rfl ?_)
 refine ⟨?_⟩
 refine wpList_store_off rfl rfl [.string ⟨#[77]⟩,.bool false,.slice none 0 0,.slice (some ⟨g,0,none⟩) 2 2] rfl rfl rfl (by kernel_rfl) (by simp [Value.oneCell']) H1.out (by simp) (new := #[.string ⟨#[77]⟩,.bool false,.slice none 0 0,.slice (some ⟨g,0,none⟩) 2 2]) rfl ?_
 intro w2 h2
 have H2 := Lib.hid h2
 have d0 := h2.cell 0 rfl
 have d1 := h2.cell 1 rfl
 have d2 := h2.cell 2 rfl
 have d3 := h2.cell 3 rfl
 clear h2 H1
 have H3 := Lib.hid (H2.out.alloc (.cells (mdC g).toArray 44))
 go_wp2_with fail
 refine (resolve_at (some ⟨w2.heap.size,0,none⟩) 1 [mA ⟨#[66]⟩] H3.out (mA_C H3.out.three.block H3.out.block) (mA_o (by decide))).mono ?_
 rintro e w4 ⟨A',n',c',xk,he,hn,hR,h4⟩
 rw [res_B] at he hn hR h4
 subst he
 obtain rfl : n' = 2 := hn
 have HR := Lib.hid hR
 have H4 := Lib.hid h4.two.drop
 clear h4 hR H3 H2 d0 d1 d2 d3
 rcases H4.out.rowForm with ⟨eB,hz, -⟩ | ⟨gl,cap1, -, -, -,eB, -⟩
 ·cases hz
 cases eB
 generalize w2.heap.size = g2 at H4 ⊢
 have k3 := H4.out.three.cell 3 (v := .slice (some ⟨g,0,none⟩) 2 2) rfl
 go_wp2_with (refine held_store _ _ _ rfl ?_)
 refine ⟨?_⟩
 refine wpList_store_off rfl rfl [.string ⟨#[65]⟩] rfl rfl rfl (by kernel_rfl) (by simp [Value.oneCell']) (four H4.out) (by simp [dfC]) (new := (dfC ⟨#[65]⟩).toArray) rfl ?_
 intro w6 h6
 have H6 := Lib.hid h6
 have d0 := (four h6).cell 0 rfl
 have d1 := (four h6).cell 1 rfl
 have d2 := (four h6).cell 2 rfl
 have d3 := (four h6).cell 3 rfl
 have H7 := Lib.hid (h6.alloc (.cells (mdC g).toArray 44))
 clear h6 H4 k3
 go_wp2_with fail
 refine (resolve_at (some ⟨w6.heap.size,0,none⟩) 1 [mA ⟨#[65]⟩] H7.out (mA_C H7.out.two.block H7.out.block) (mA_o (by decide))).mono ?_
 rintro e w8 ⟨A2,n2,c2,xk2,he, -, -,h8⟩
 rw [res_A] at he
 subst he
 have H8 := Lib.hid (h8.drop.drop.drop.two)
 clear h8 H7 H6 d0 d1 d2 d3
 obtain ⟨-,e4,e19⟩ := eA_cells HR.out
 have hrd : ∀ (j : Nat) (u : Value),xk[j]? = some u → w8.cell? ⟨gl,j,none⟩ = some u := fun j u hu => by
  obtain ⟨-,A,c,e, -, -,hc⟩ := H8.out.reads
  cases e
  obtain ⟨ad,e',h⟩ := hc j u hu
  cases e'
  rwa [Sep.add_plain] at h
 have c4 := hrd 4 _ e4
 have c19 := hrd 19 _ e19
 clear hrd e4 e19
 go_wp2_with fail
 refine (find_at (some ⟨gl,0,none⟩) c' eA ⟨#[77,46,66]⟩ H8.out (eA_C H8.out HR.out) mA_has).mono ?_
 rintro e w9 ⟨i,rfl,h9,hp⟩
 obtain rfl := place_B hp
 have H9 := Lib.hid h9
 clear h9 hp c4 c19
 go_wp2_with fail
 refine (find_at (some ⟨gl,0,none⟩) c' eA ⟨#[77,46,67]⟩ H9.out (eA_C H9.out HR.out) mA_has).mono ?_
 rintro e w10 ⟨i,rfl,h10,hp⟩
 obtain rfl := place_C hp
 have H10 := Lib.hid h10
 clear h10 hp
 go_wp2
 go_ret
 exact ⟨rfl,H10.out.drop.drop.drop.drop⟩
end Go.Proofs.YtbjddomocggjmaaGreat.Sc
