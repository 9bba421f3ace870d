/- Stores into the midst of a row; rows whose elements change one by one. -/
import Derived.Lib.SliceRun
import Derived.Test.YtbjddomocggjmaaGreatLE
section
namespace Go.Proofs.YtbjddomocggjmaaGreat.Sc
open Go.RowKit Go.ChangeShapes Go.WideShapes Go.Proofs.YtbjddomocggjmaaGreat.Sep
open Go.Proofs.YtbjddomocggjmaaGreatW.PrintWords
variable {B : Nat} {w0 w : World} {R : HP}
theorem made0 {e : TypeId} {size n : Nat} (h : St B w0 w R) (hn : n = w.heap.size) : St B w0 (w.alloc (.cells #[] e)) (RowV e size (.slice (some ⟨n,0,none⟩) 0 0) 0 [] • R) := by
 subst hn
 exact (h.alloc (.cells #[] e)).blkRow (Nat.le_refl 0) (Nat.zero_le _) (by simp) (.inr (Nat.le_refl 0)) (by simp)
theorem c_none {α : Type} {d : Kd α} {l : List α} (h : d.C w none l.length l) : l = [] := by
 cases l with
 | nil => rfl
 | cons a l =>
  obtain ⟨ad,e, -⟩ := h.2.2 (by simp)
  cases e
theorem info_strs : (Tryz.prog.info? 9).map (fun i => (i.zero,i.size,i.bytes)) = some (some (.string ByteArray.empty),1,16) := by kernel_rfl
set_option maxHeartbeats 2000000 in
set_option maxRecDepth 100000 in
theorem clone_strs (A : Option Addr) (c : Nat) (l : List (ByteArray)) (h : S w0 w R) (hC : Kd.string.C w0 A l.length l) (hb : l.length * 16 ≤ M) :
  Calls Tryz.prog 35 #[.slice A l.length c] w fun e w' => ∃ v xs,e = .returned v ∧ Reps (Kd.string.K w0) 1 l xs ∧ S w0 w' (RowV 9 1 v l.length xs • R) := by
 obtain ⟨xs,hR,hl,hr⟩ := c_rows hC
 have hb' : l.length * 16 ≤ 140737488355328 := hb
 have HR := Lib.hid (And.intro hR (And.intro hl (And.intro hr (reps_one hR))))
 have H := Lib.hid h
 cases A with
 | none =>
  obtain rfl := c_none hC
  clear h hC hb hb' hR hl hr
  go_enter Tryz.func35,Tryz.ntmps35
  go_wp2
  simp only [Lib.run_eql_slice_nil (P := Tryz.prog) _ _ _ _ _ _ _ _ Tryz.underlying34,Result.andThen_ok]
  go_wp2
  go_ret
  exact ⟨_,[],rfl,Reps.none _ _,H.out.nil _ _⟩
 | some ad =>
  clear h hC hb hR hl hr
  have H2 := Lib.hid (made0 (e := 9) (size := 1) H.out rfl)
  go_enter Tryz.func35,Tryz.ntmps35
  go_wp2
  simp only [Lib.run_eql_slice_nil (P := Tryz.prog) _ _ _ _ _ _ _ _ Tryz.underlying34,Result.andThen_ok]
  go_wp2_with (at_builtin; refine Held.out ?_)
  refine ⟨?_⟩
  refine wpList_append (by rfl) _ _ Tryz.underlying34 info_strs rfl (by decide) rfl _ 0 [] rfl H2.out rfl HR.out.2.1 (fun j u hu => by
   obtain ⟨ad',e,hc⟩ := HR.out.2.2.1 j u hu
   exact ⟨ad',e,pw_cell_below H2.out.below hc⟩) HR.out.2.2.2 (by simp only [maxLen]; omega) (by omega) ?_
  intro v1 w1 h1
  have H1 := Lib.hid h1
  clear h1
  go_wp2
  go_ret
  exact ⟨_,xs,rfl,HR.out.1,by have h := H1.out; rwa [Nat.zero_add,List.nil_append] at h⟩
theorem info_cons : (Tryz.prog.info? 33).map (fun i => (i.zero,i.size,i.bytes)) = some (some (.agg #[.int .i64 0,.int .i64 0,.int .i64 0,.bool false,.bool false,.slice none 0 0]),6,56) := by kernel_rfl
set_option maxHeartbeats 2000000 in
set_option maxRecDepth 100000 in
theorem clone_cons (A : Option Addr) (c : Nat) (l : List (Con)) (h : S w0 w R) (hC : kCon.C w0 A l.length l) (hb : l.length * 56 ≤ M) :
  Calls Tryz.prog 59 #[.slice A l.length c] w fun e w' => ∃ v xs,e = .returned v ∧ Reps (kCon.K w0) 6 l xs ∧ S w0 w' (RowV 33 6 v l.length xs • R) := by
 obtain ⟨xs,hR,hl,hr⟩ := c_rows hC
 have hb' : l.length * 56 ≤ 140737488355328 := hb
 have HR := Lib.hid (And.intro hR (And.intro hl (And.intro hr (reps_one hR))))
 have H := Lib.hid h
 cases A with
 | none =>
  obtain rfl := c_none hC
  clear h hC hb hb' hR hl hr
  go_enter Tryz.func59,Tryz.ntmps59
  go_wp2
  simp only [Lib.run_eql_slice_nil (P := Tryz.prog) _ _ _ _ _ _ _ _ Tryz.underlying31,Result.andThen_ok]
  go_wp2
  go_ret
  exact ⟨_,[],rfl,Reps.none _ _,H.out.nil _ _⟩
 | some ad =>
  clear h hC hb hR hl hr
  have H2 := Lib.hid (made0 (e := 33) (size := 6) H.out rfl)
  go_enter Tryz.func59,Tryz.ntmps59
  go_wp2
  simp only [Lib.run_eql_slice_nil (P := Tryz.prog) _ _ _ _ _ _ _ _ Tryz.underlying31,Result.andThen_ok]
  go_wp2_with (at_builtin; refine Held.out ?_)
  refine ⟨?_⟩
  refine wpList_append (by rfl) _ _ Tryz.underlying31 info_cons rfl (by decide) rfl _ 0 [] rfl H2.out rfl HR.out.2.1 (fun j u hu => by
   obtain ⟨ad',e,hc⟩ := HR.out.2.2.1 j u hu
   exact ⟨ad',e,pw_cell_below H2.out.below hc⟩) HR.out.2.2.2 (by simp only [maxLen]; omega) (by omega) ?_
  intro v1 w1 h1
  have H1 := Lib.hid h1
  clear h1
  go_wp2
  go_ret
  exact ⟨_,xs,rfl,HR.out.1,by have h := H1.out; rwa [Nat.zero_add,List.nil_append] at h⟩
theorem info_pts : (Tryz.prog.info? 83).map (fun i => (i.zero,i.size,i.bytes)) = some (some (.agg #[.string ByteArray.empty,.int .i64 0,.string ByteArray.empty,.int .i64 0,.int .i64 0,.int .i64 0,.bool false,.bool false,.slice none 0 0,.bool false,.string ByteArray.empty,.slice none 0 0,.slice none 0 0,.slice none 0 0,.slice none 0 0,.slice none 0 0,.bool false,.slice none 0 0]),18,272) := by kernel_rfl
set_option maxHeartbeats 2000000 in
set_option maxRecDepth 100000 in
theorem clone_pts (A : Option Addr) (c : Nat) (l : List (Pt Ty)) (h : S w0 w R) (hC : kPt.C w0 A l.length l) (hb : l.length * 272 ≤ M) :
  Calls Tryz.prog 61 #[.slice A l.length c] w fun e w' => ∃ v xs,e = .returned v ∧ Reps (kPt.K w0) 18 l xs ∧ S w0 w' (RowV 83 18 v l.length xs • R) := by
 obtain ⟨xs,hR,hl,hr⟩ := c_rows hC
 have hb' : l.length * 272 ≤ 140737488355328 := hb
 have HR := Lib.hid (And.intro hR (And.intro hl (And.intro hr (reps_one hR))))
 have H := Lib.hid h
 cases A with
 | none =>
  obtain rfl := c_none hC
  clear h hC hb hb' hR hl hr
  go_enter Tryz.func61,Tryz.ntmps61
  go_wp2
  simp only [Lib.run_eql_slice_nil (P := Tryz.prog) _ _ _ _ _ _ _ _ Tryz.underlying35,Result.andThen_ok]
  go_wp2
  go_ret
  exact ⟨_,[],rfl,Reps.none _ _,H.out.nil _ _⟩
 | some ad =>
  clear h hC hb hR hl hr
  have H2 := Lib.hid (made0 (e := 83) (size := 18) H.out rfl)
  go_enter Tryz.func61,Tryz.ntmps61
  go_wp2
  simp only [Lib.run_eql_slice_nil (P := Tryz.prog) _ _ _ _ _ _ _ _ Tryz.underlying35,Result.andThen_ok]
  go_wp2_with (at_builtin; refine Held.out ?_)
  refine ⟨?_⟩
  refine wpList_append (by rfl) _ _ Tryz.underlying35 info_pts rfl (by decide) rfl _ 0 [] rfl H2.out rfl HR.out.2.1 (fun j u hu => by
   obtain ⟨ad',e,hc⟩ := HR.out.2.2.1 j u hu
   exact ⟨ad',e,pw_cell_below H2.out.below hc⟩) HR.out.2.2.2 (by simp only [maxLen]; omega) (by omega) ?_
  intro v1 w1 h1
  have H1 := Lib.hid h1
  clear h1
  go_wp2
  go_ret
  exact ⟨_,xs,rfl,HR.out.1,by have h := H1.out; rwa [Nat.zero_add,List.nil_append] at h⟩
theorem info_vals : (Tryz.prog.info? 109).map (fun i => (i.zero,i.size,i.bytes)) = some (some (.agg #[.int .i64 0,.int .i64 0,.string ByteArray.empty,.slice none 0 0,.slice none 0 0]),5,80) := by kernel_rfl
set_option maxHeartbeats 2000000 in
set_option maxRecDepth 100000 in
theorem clone_vals (A : Option Addr) (c : Nat) (l : List (Val)) (h : S w0 w R) (hC : kVal.C w0 A l.length l) (hb : l.length * 80 ≤ M) :
  Calls Tryz.prog 62 #[.slice A l.length c] w fun e w' => ∃ v xs,e = .returned v ∧ Reps (kVal.K w0) 5 l xs ∧ S w0 w' (RowV 109 5 v l.length xs • R) := by
 obtain ⟨xs,hR,hl,hr⟩ := c_rows hC
 have hb' : l.length * 80 ≤ 140737488355328 := hb
 have HR := Lib.hid (And.intro hR (And.intro hl (And.intro hr (reps_one hR))))
 have H := Lib.hid h
 cases A with
 | none =>
  obtain rfl := c_none hC
  clear h hC hb hb' hR hl hr
  go_enter Tryz.func62,Tryz.ntmps62
  go_wp2
  simp only [Lib.run_eql_slice_nil (P := Tryz.prog) _ _ _ _ _ _ _ _ Tryz.underlying81,Result.andThen_ok]
  go_wp2
  go_ret
  exact ⟨_,[],rfl,Reps.none _ _,H.out.nil _ _⟩
 | some ad =>
  clear h hC hb hR hl hr
  have H2 := Lib.hid (made0 (e := 109) (size := 5) H.out rfl)
  go_enter Tryz.func62,Tryz.ntmps62
  go_wp2
  simp only [Lib.run_eql_slice_nil (P := Tryz.prog) _ _ _ _ _ _ _ _ Tryz.underlying81,Result.andThen_ok]
  go_wp2_with (at_builtin; refine Held.out ?_)
  refine ⟨?_⟩
  refine wpList_append (by rfl) _ _ Tryz.underlying81 info_vals rfl (by decide) rfl _ 0 [] rfl H2.out rfl HR.out.2.1 (fun j u hu => by
   obtain ⟨ad',e,hc⟩ := HR.out.2.2.1 j u hu
   exact ⟨ad',e,pw_cell_below H2.out.below hc⟩) HR.out.2.2.2 (by simp only [maxLen]; omega) (by omega) ?_
  intro v1 w1 h1
  have H1 := Lib.hid h1
  clear h1
  go_wp2
  go_ret
  exact ⟨_,xs,rfl,HR.out.1,by have h := H1.out; rwa [Nat.zero_add,List.nil_append] at h⟩
theorem info_tys : (Tryz.prog.info? 38).map (fun i => (i.zero,i.size,i.bytes)) = some (some (.agg #[.int .i64 0,.string ByteArray.empty,.int .i64 0,.int .i64 0,.int .i64 0,.bool false,.bool false,.slice none 0 0,.bool false,.string ByteArray.empty,.slice none 0 0,.slice none 0 0,.slice none 0 0,.slice none 0 0,.slice none 0 0]),15,224) := by kernel_rfl
set_option maxHeartbeats 2000000 in
set_option maxRecDepth 100000 in
theorem clone_tys (A : Option Addr) (c : Nat) (l : List (Ty)) (h : S w0 w R) (hC : kTy.C w0 A l.length l) (hb : l.length * 224 ≤ M) :
  Calls Tryz.prog 39 #[.slice A l.length c] w fun e w' => ∃ v xs,e = .returned v ∧ Reps (kTy.K w0) 15 l xs ∧ S w0 w' (RowV 38 15 v l.length xs • R) := by
 obtain ⟨xs,hR,hl,hr⟩ := c_rows hC
 have hb' : l.length * 224 ≤ 140737488355328 := hb
 have HR := Lib.hid (And.intro hR (And.intro hl (And.intro hr (reps_one hR))))
 have H := Lib.hid h
 cases A with
 | none =>
  obtain rfl := c_none hC
  clear h hC hb hb' hR hl hr
  go_enter Tryz.func39,Tryz.ntmps39
  go_wp2
  simp only [Lib.run_eql_slice_nil (P := Tryz.prog) _ _ _ _ _ _ _ _ Tryz.underlying36,Result.andThen_ok]
  go_wp2
  go_ret
  exact ⟨_,[],rfl,Reps.none _ _,H.out.nil _ _⟩
 | some ad =>
  clear h hC hb hR hl hr
  have H2 := Lib.hid (made0 (e := 38) (size := 15) H.out rfl)
  go_enter Tryz.func39,Tryz.ntmps39
  go_wp2
  simp only [Lib.run_eql_slice_nil (P := Tryz.prog) _ _ _ _ _ _ _ _ Tryz.underlying36,Result.andThen_ok]
  go_wp2_with (at_builtin; refine Held.out ?_)
  refine ⟨?_⟩
  refine wpList_append (by rfl) _ _ Tryz.underlying36 info_tys rfl (by decide) rfl _ 0 [] rfl H2.out rfl HR.out.2.1 (fun j u hu => by
   obtain ⟨ad',e,hc⟩ := HR.out.2.2.1 j u hu
   exact ⟨ad',e,pw_cell_below H2.out.below hc⟩) HR.out.2.2.2 (by simp only [maxLen]; omega) (by omega) ?_
  intro v1 w1 h1
  have H1 := Lib.hid h1
  clear h1
  go_wp2
  go_ret
  exact ⟨_,xs,rfl,HR.out.1,by have h := H1.out; rwa [Nat.zero_add,List.nil_append] at h⟩
end Go.Proofs.YtbjddomocggjmaaGreat.Sc
end
section
namespace Go.Proofs.YtbjddomocggjmaaGreat.Sc
open Go.RowKit Go.ChangeShapes Go.WideShapes Go.Proofs.YtbjddomocggjmaaGreat.Sep
open Go.Proofs.YtbjddomocggjmaaGreatW.PrintWords
variable {B : Nat} {w0 w w1 : World} {R : HP}
theorem take_mid {α : Type} (l cs : List α) (o N : Nat) (h1 : o + cs.length ≤ N) (h2 : N ≤ l.length) : (l.take o ++ cs ++ l.drop (o + cs.length)).take N = (l.take N).take o ++ cs ++ (l.take N).drop (o + cs.length) := by
 have hA : (l.take o ++ cs).length = o + cs.length := by rw [List.length_append,List.length_take]; omega
 rw [List.take_append,hA,List.take_of_length_le (show (l.take o ++ cs).length ≤ N by rw [hA]; exact h1),List.take_take,List.drop_take,Nat.min_eq_left (by omega)]
theorem store_row {P : Program} {ty : TypeId} {val : Value} {cs : List Value} (hval : val.cells = cs.toArray) (hi : (P.info? ty).map (·.size) = some cs.length) (h1 : ∀ u ∈ cs,u.oneCell' = true) {e : TypeId} {size n cap g : Nat} {xs : List Value}
  (h : St B w0 w (RowV e size (.slice (some ⟨g,0,none⟩) n cap) n xs • R)) (o : Nat) (ho : o + cs.length ≤ n * size) :
  ∃ w',(Instr.storeAt ty (.pointer (some ⟨g,o,none⟩)) val).run P w = .ok () w' ∧ St B w0 w' (RowV e size (.slice (some ⟨g,0,none⟩) n cap) n (xs.take o ++ cs ++ xs.drop (o + cs.length)) • R) := by
 rcases h.rowForm with ⟨hv,_,_⟩ | ⟨g',cap',cur,lo,hi',e',hf,hnc,hc,hs,hx,hb⟩
 ·cases hv
 ·cases e'
  have hnN : n * size ≤ cur.size := by rw [hs]; exact Nat.mul_le_mul_right _ hnc
  have hst := run_storeCells_off (P := P) g o lo hi' e cs 0 cur w hb.block (by simpa using Nat.le_trans ho hnN) hf h1
  simp only [Nat.add_zero] at hst
  refine ⟨w.setRow g (cur.toList.take o ++ cs ++ cur.toList.drop (o + cs.length)).toArray, ?_, ?_⟩
  ·cases hq : P.info? ty with
   | none => simp [hq] at hi
   | some i =>
    have hsz : cs.length = i.size := by simp [hq] at hi; omega
    simp [Instr.storeAt,Instr.sureAddr,storeVar,sizeOf,typeInfo,hq,hval,hst]
    exact hsz
  ·have hst2 : St B w0 (w.setRow g (cur.toList.take o ++ cs ++ cur.toList.drop (o + cs.length)).toArray) (Blk g (.cells (cur.toList.take o ++ cs ++ cur.toList.drop (o + cs.length)).toArray e (lo,hi')) • R) :=
    hb.step (by simp [World.setRow]) rfl rfl rfl fun F hF ⟨hf,hb'⟩ => ⟨fun k hk hn => setRow_other w g k _ (fun e => hn (by subst e; exact hf)),F,fun b hb => .inl hb,hf,setRow_heap w g cur _ e _ hb'⟩
   have hsz2 : (cur.toList.take o ++ cs ++ cur.toList.drop (o + cs.length)).toArray.size = cur.size := by
    simp only [List.size_toArray,List.length_append,List.length_take,List.length_drop,Array.length_toList]
    omega
   refine hst2.blkRow hnc hc (by rw [hsz2,hs]) (by rw [hsz2]; exact hf) ?_
   rw [List.toList_toArray,take_mid cur.toList cs o (n * size) ho (by rw [Array.length_toList]; exact hnN),hx]
theorem reps_set {α : Type} {K : α → List Value → Prop} {sz : Nat} {l : List α} {xs cs : List Value} {j : Nat} {x : α} (h : Reps K sz l xs) (hj : l[j]? = some x) (hc : K x cs) (hl : cs.length = sz) : Reps K sz l (xs.take (j * sz) ++ cs ++ xs.drop (j * sz + cs.length)) := by
 have hjl := (List.getElem?_eq_some_iff.1 hj).1
 have hle : j * sz + sz ≤ xs.length := by rw [h.1, ← Nat.succ_mul]; exact Nat.mul_le_mul_right _ hjl
 have hA : (xs.take (j * sz) ++ cs).length = j * sz + sz := by rw [List.length_append,List.length_take]; omega
 have ht : (xs.take (j * sz)).length = j * sz := by rw [List.length_take]; omega
 refine ⟨by rw [List.length_append,hA,List.length_drop,hl, ← h.1]; omega,fun k p hp => ?_⟩
 rcases Nat.lt_trichotomy k j with hk | hk | hk
 ·have hkle : k * sz + sz ≤ j * sz := by rw [← Nat.succ_mul]; exact Nat.mul_le_mul_right _ hk
  have e : ((xs.take (j * sz) ++ cs ++ xs.drop (j * sz + cs.length)).drop (k * sz)).take sz = (xs.drop (k * sz)).take sz := by
   rw [List.append_assoc,List.drop_append_of_le_length (by omega),List.take_append_of_le_length (by rw [List.length_drop]; omega),List.drop_take,List.take_take,Nat.min_eq_left (by omega)]
  rw [e]
  exact h.2 k p hp
 ·subst hk
  rw [hj] at hp
  cases hp
  have e : ((xs.take (k * sz) ++ cs ++ xs.drop (k * sz + cs.length)).drop (k * sz)).take sz = cs := by
   rw [List.append_assoc,List.drop_append_of_le_length (by omega),List.drop_of_length_le (by omega),List.nil_append,List.take_append_of_le_length (by omega),List.take_of_length_le (by omega)]
  rw [e]
  exact hc
 ·have hkle : j * sz + sz ≤ k * sz := by rw [← Nat.succ_mul]; exact Nat.mul_le_mul_right _ hk
  have e : ((xs.take (j * sz) ++ cs ++ xs.drop (j * sz + cs.length)).drop (k * sz)).take sz = (xs.drop (k * sz)).take sz := by
   rw [List.drop_append,hA,List.drop_of_length_le (show (xs.take (j * sz) ++ cs).length ≤ k * sz by rw [hA]; exact hkle),List.nil_append,List.drop_drop]
   congr 2
   omega
  rw [e]
  exact h.2 k p hp
theorem set_behind {xs ys cs : List Value} {j sz : Nat} (h : xs.drop (j * sz) = ys.drop (j * sz)) (hl : cs.length = sz) (hle : j * sz + sz ≤ xs.length) : (xs.take (j * sz) ++ cs ++ xs.drop (j * sz + cs.length)).drop ((j + 1) * sz) = ys.drop ((j + 1) * sz) := by
 have hA : (xs.take (j * sz) ++ cs).length = (j + 1) * sz := by rw [List.length_append,List.length_take,Nat.succ_mul]; omega
 rw [List.drop_append_of_le_length (by omega),List.drop_of_length_le (by omega),List.nil_append,hl,Nat.succ_mul, ← List.drop_drop,h,List.drop_drop]
end Go.Proofs.YtbjddomocggjmaaGreat.Sc
end
