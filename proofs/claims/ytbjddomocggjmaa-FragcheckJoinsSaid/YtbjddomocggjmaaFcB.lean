/- Literals in memory; the checks at the world at hand; what the law asks first. -/
import Derived.Test.YtbjddomocggjmaaFcE
import Derived.Test.YtbjddomocggjmaaFcC
import Derived.Test.YtbjddomocggjmaaFcM
namespace Go.Proofs.Ytbjddomocggjmaa.Fc
open Go.RowKit Go.ChangeShapes Go.WideShapes Go.Proofs.Ytbjddomocggjmaa.Sep
open Go.Proofs.YtbjddomocggjmaaW.PrintWords
variable {B : Nat} {w0 w w1 : World} {R : HP}

/-- What stands above a world's end, put upon what it owned. -/
theorem nest {A : HP} (h1 : St B w0 w1 R) (h2 : St w1.heap.size w1 w A) : St B w0 w (A • R) := by
  obtain ⟨hb, hs, F, hF, hR⟩ := h1
  obtain ⟨hb2, hs2, G, hG, hA⟩ := h2
  refine ⟨hb.trans (hb2.mono hs), by omega, fun b => G b ∨ F b, ?_, G, F, fun b h => .inl h, fun b h => .inr h, ?_, hA, ?_⟩
  · rintro b (h | h)
    · have := hG b h; omega
    · have := hF b h; omega
  · intro b h3 h4
    have := hG b h3
    have := hF b h4
    omega
  · exact R.loc hR fun b h => hb2.block b (hF b h).2
theorem alloc_at {n : Nat} (h : St B w0 w R) (o : Obj) (hn : n = w.heap.size) : St B w0 (w.alloc o) (Blk n o • R) := by
  subst hn
  exact h.alloc o
/-- One element in a block of its own; two. -/
theorem lit1 {α : Type} {d : Kd α} {W : World} {g : Nat} {x : α} {cs : List Value} (hz : cs.length = d.sz) (hK : d.K W x cs) (h : ∀ (i : Nat) (u : Value), cs[i]? = some u → W.cell? ⟨g, i, none⟩ = some u) : d.C W (some ⟨g, 0, none⟩) 1 [x] := by
  refine ⟨rfl, by simp, fun _ => ⟨_, rfl, fun j p hp => ?_⟩⟩
  obtain rfl : j = 0 := by have := (List.getElem?_eq_some_iff.1 hp).1; simp at this; omega
  simp only [List.getElem?_cons_zero, Option.some.injEq] at hp
  subst hp
  refine ⟨cs, hz, hK, fun i u hu => ?_⟩
  rw [Sep.add_plain, Nat.zero_mul, Nat.zero_add]
  exact h i u hu
theorem lit2 {α : Type} {d : Kd α} {W : World} {g : Nat} {x y : α} {cs ds : List Value} (hz : cs.length = d.sz) (hz2 : ds.length = d.sz) (hK : d.K W x cs) (hK2 : d.K W y ds) (h : ∀ (i : Nat) (u : Value), (cs ++ ds)[i]? = some u → W.cell? ⟨g, i, none⟩ = some u) : d.C W (some ⟨g, 0, none⟩) 2 [x, y] := by
  refine ⟨rfl, by simp, fun _ => ⟨_, rfl, fun j p hp => ?_⟩⟩
  have hj : j = 0 ∨ j = 1 := by have := (List.getElem?_eq_some_iff.1 hp).1; simp at this; omega
  rcases hj with rfl | rfl
  · simp only [List.getElem?_cons_zero, Option.some.injEq] at hp
    subst hp
    refine ⟨cs, hz, hK, fun i u hu => ?_⟩
    have hi := (List.getElem?_eq_some_iff.1 hu).1
    rw [Sep.add_plain, Nat.zero_mul, Nat.zero_add]
    exact h i u (by rw [List.getElem?_append_left hi]; exact hu)
  · simp only [List.getElem?_cons_succ, List.getElem?_cons_zero, Option.some.injEq] at hp
    subst hp
    refine ⟨ds, hz2, hK2, fun i u hu => ?_⟩
    rw [Sep.add_plain, Nat.one_mul]
    exact h _ u (by rw [List.getElem?_append_right (by omega), ← hz, Nat.add_sub_cancel_left]; exact hu)
theorem check_at (A : Option Addr) (c : Nat) (l : List Func) (h : St B w0 w R) (hC : CF w A l) (ho : ∀ x ∈ l, okF x) :
    Calls Try.prog 12 #[.slice A l.length c] w fun e w' => e = .returned (.int .i64 (errI l)) ∧ St B w0 w' R :=
  (check_calls (w0 := w) (R := emp) A c l (St.start w) hC ho).mono fun _ _ ⟨h1, h2⟩ => ⟨h1, (nest h h2).drop⟩
theorem shaped_at (A : Option Addr) (c : Nat) (l : List Func) (h : St B w0 w R) (hC : CF w A l) (ho : ∀ x ∈ l, okF x) :
    Calls Try.prog 16 #[.slice A l.length c] w fun e w' => e = .returned (.bool (shapedB l)) ∧ St B w0 w' R :=
  (shaped_calls (w0 := w) (R := emp) A c l (St.start w) hC ho).mono fun _ _ ⟨h1, h2⟩ => ⟨h1, (nest h h2).drop⟩
theorem check20_at (A : Option Addr) (c : Nat) (l : List Func) (h : St B w0 w R) (hC : CF w A l) (hc : l.length ≤ c) (hl : l.length ≤ M) (ho : ∀ x ∈ l, okF x) :
    Calls Try.prog 13 #[.slice A l.length c] w fun e w' => e = .returned (.int .i64 (errI l)) ∧ St B w0 w' R :=
  (check20_calls (w0 := w) (R := emp) A c l (St.start w) hC hc hl ho).mono fun _ _ ⟨h1, h2⟩ => ⟨h1, (nest h h2).drop⟩
theorem find_at2 (A : Option Addr) (c : Nat) (l : List Func) (nm : ByteArray) (h : St B w0 w R) (hC : CF w A l) :
    Calls Try.prog 14 #[.slice A l.length c, .string nm] w fun e w' => e = .returned (.int .i64 (findN (nameB nm) l 0)) ∧ St B w0 w' R :=
  (find_calls (w0 := w) (R := emp) A c l nm (St.start w) hC).mono fun _ _ ⟨i, h1, h2, h3⟩ => ⟨by rw [h1, find_place h3], (nest h h2).drop⟩
theorem find20_at (A : Option Addr) (c : Nat) (l : List Func) (nm : ByteArray) (h : St B w0 w R) (hC : CF w A l) (hc : l.length ≤ c) (hl : l.length ≤ M) :
    Calls Try.prog 15 #[.slice A l.length c, .string nm] w fun e w' => e = .returned (.int .i64 (findN (nameB nm) l 0)) ∧ St B w0 w' R :=
  (find20_calls (w0 := w) (R := emp) A c l nm (St.start w) hC hc hl).mono fun _ _ ⟨h1, h2⟩ => ⟨h1, (nest h h2).drop⟩
theorem few_at (A : Option Addr) (c : Nat) (l : List Func) (n : Int) (h : St B w0 w R) (hC : CF w A l) (hc : l.length ≤ c) (hl : l.length ≤ M) (ho : ∀ x ∈ l, okF x) :
    Calls Try.prog 11 #[.slice A l.length c, .int .i64 n] w fun e w' => ∃ b, e = .returned (.bool b) ∧ St B w0 w' R := by
  obtain ⟨r, hr⟩ := Few_f l hl ho n
  obtain ⟨k, hk⟩ := hr.rounds
  exact (PFragcheckChecks.spandrelref18_Few.calls k A c l n r w hC hc hk).mono fun _ _ ⟨h1, h2⟩ => ⟨r, h1, st_drawn h h2⟩

/-! ### The document's examples -/
def T0 : ByteArray := ⟨#[116, 48]⟩
def T1 : ByteArray := ⟨#[116, 49]⟩
def A0 : Arg := ⟨false, 0, ⟨#[]⟩⟩
def A7 : Arg := ⟨false, 7, ⟨#[]⟩⟩
def sInt (l : List Arg) : Stmt := ⟨1, ⟨#[73, 110, 116]⟩, l, [], []⟩
def sCall (n : ByteArray) : Stmt := ⟨2, n, [], [], []⟩
def aw (l : List Arg) (n : ByteArray) : List Func := [⟨T0, [sInt l, sCall n]⟩]
theorem no_mem {α : Type} {p : α → Prop} : ∀ x ∈ ([] : List α), p x := fun _ hx => absurd hx (by simp)
theorem i64_small (n : Int) (h0 : 0 ≤ n) (h1 : n ≤ 1000) : i64 n := ⟨by omega, by omega⟩
theorem ok_call (n : ByteArray) (h : n.size ≤ M) : ∀ d, okS d (sCall n)
  | 0 => trivial
  | d + 1 => ⟨i64_small 2 (by omega) (by omega), h, Nat.zero_le _, Nat.zero_le _, Nat.zero_le _, no_mem, no_mem, no_mem⟩
theorem ok_int (l : List Arg) (hl : l.length ≤ M) (h : ∀ a ∈ l, okA a) : ∀ d, okS d (sInt l)
  | 0 => trivial
  | d + 1 => ⟨i64_small 1 (by omega) (by omega), by show 3 ≤ M; decide, hl, Nat.zero_le _, Nat.zero_le _, h, no_mem, no_mem⟩
theorem aw_ok (l : List Arg) (n : ByteArray) (hl : l.length ≤ M) (h : ∀ a ∈ l, okA a) (hn : n.size ≤ M) : ∀ f ∈ aw l n, okF f := by
  intro f hf
  obtain rfl := List.mem_singleton.1 hf
  refine ⟨by show 2 ≤ M; decide, by show 2 ≤ M; decide, fun x hx => ?_⟩
  rcases List.mem_cons.1 hx with rfl | hx
  · exact ok_int l hl h
  · obtain rfl := List.mem_singleton.1 hx
    exact ok_call n hn
theorem a07_ok : ∀ a ∈ [A0, A7], okA a := by
  intro a ha
  rcases List.mem_cons.1 ha with rfl | ha
  · exact ⟨⟨by decide, by decide⟩, Nat.zero_le _⟩
  · obtain rfl := List.mem_singleton.1 ha
    exact ⟨⟨by decide, by decide⟩, Nat.zero_le _⟩
theorem aw_shaped (l : List Arg) (n : ByteArray) (h : stmtB (bodyB 39) (sInt l) = true) (hn : stmtB (bodyB 39) (sCall n) = true) : shapedB (aw l n) = true := by
  have e : shapedB (aw l n) = (fnB T0 && (stmtB (bodyB 39) (sInt l) && (stmtB (bodyB 39) (sCall n) && true)) && true) := rfl
  rw [e, h, hn, show fnB T0 = true by unfold fnB; rw [Lib.toList_data]; decide +kernel]
  rfl
theorem st_call (n : ByteArray) (h : fnB n = true) : stmtB (bodyB 39) (sCall n) = true := by
  show (fnB n && true) = true
  rw [h]; rfl
theorem fn_T0 : fnB T0 = true := by unfold fnB; rw [Lib.toList_data]; decide +kernel
theorem fn_T1 : fnB T1 = true := by unfold fnB; rw [Lib.toList_data]; decide +kernel
theorem st_int (l : List Arg) (hl : l.length ≤ 4096) (h : l.all argB = true) : stmtB (bodyB 39) (sInt l) = true := by
  have e : mtB (sInt l).f1 = true := by show mtB ⟨#[73, 110, 116]⟩ = true; decide +kernel
  unfold stmtB
  rw [if_neg (show ¬ (sInt l).f0 = 2 from (by decide : ¬ (1 : Int) = 2)), if_neg (by rw [e]; simp), if_neg (show ¬ 4096 < (sInt l).f2.length from (by omega : ¬ 4096 < l.length)), if_neg, if_pos (show (sInt l).f0 = 1 from rfl)]
  · rfl
  · show ¬ (l.any fun a => !argB a) = true
    rw [all_any] at h
    simpa using h
theorem aw_names (l : List Arg) (n : ByteArray) : namesOf (aw l n) = [[116, 48]] := rfl
theorem aw_known (l : List Arg) (n : ByteArray) : ((aw l n).all fun f => allB (knownB (namesOf (aw l n))) f.f1) = ([[116, 48]] : List (List UInt8)).contains n.data.toList := by
  rw [aw_names]
  show (allB (knownB [[116, 48]]) [sInt l, sCall n] && true) = _
  rw [allB_eq, Bool.and_true]
  show ((true && (allB (knownB [[116, 48]]) [] && allB (knownB [[116, 48]]) [])) && (knownB [[116, 48]] (sCall n) && (allB (knownB [[116, 48]]) [] && allB (knownB [[116, 48]]) []) && true)) = _
  simp only [allB, Bool.and_true, Bool.true_and]
  rfl
theorem pat_int : patB 1 ⟨#[73, 110, 116]⟩ = (⟨#[110, 110, 42]⟩, true) := by
  unfold patB
  simp [Ppattern.fragcheck_pattern.f, Ppattern.fragcheck_pattern.j0, Ppattern.fragcheck_pattern.j1, Lib.toList_data]
theorem aw_typed (l : List Arg) (n : ByteArray) : ((aw l n).all fun f => allB typedB f.f1) = fitsB (l.map sortOf) [110, 110, 42] := by
  show (allB typedB [sInt l, sCall n] && true) = _
  rw [allB_eq, Bool.and_true]
  show ((typedB (sInt l) && (allB typedB [] && allB typedB [])) && ((typedB (sCall n) && (allB typedB [] && allB typedB [])) && true)) = _
  have e1 : typedB (sCall n) = true := by unfold typedB; rw [if_pos (show (sCall n).f0 = 2 from rfl)]
  have e2 : typedB (sInt l) = fitsB (l.map sortOf) [110, 110, 42] := by
    unfold typedB
    rw [if_neg (show ¬ (sInt l).f0 = 2 from (by decide : ¬ (1 : Int) = 2)), show patB (sInt l).f0 (sInt l).f1 = (⟨#[110, 110, 42]⟩, true) from pat_int]
    rfl
  rw [e1, e2, allB]
  simp
theorem a07_arg : ([A0, A7] : List Arg).all argB = true := by
  simp [argB, A0, A7, Lib.toList_data]
theorem aw_err0 : errI (aw [A0, A7] T0) = 0 := by
  unfold errI
  rw [aw_shaped _ _ (st_int _ (by decide) a07_arg) (st_call _ fn_T0), if_pos rfl, aw_known, aw_names, aw_typed]
  rfl
theorem aw_err12 : errI (aw [] T0) = 12 := by
  unfold errI
  rw [aw_shaped _ _ (st_int _ (by decide) rfl) (st_call _ fn_T0), if_pos rfl, aw_known, aw_names, aw_typed]
  rfl
theorem aw_err7 : errI (aw [] T1) = 7 := by
  unfold errI
  rw [aw_shaped _ _ (st_int _ (by decide) rfl) (st_call _ fn_T1), if_pos rfl, aw_known, aw_names]
  rfl
theorem t0_name (n : ByteArray) (b : List Stmt) : nameB n ⟨T0, b⟩ = (([116, 48] : List UInt8) == n.data.toList) := by
  unfold nameB
  rw [Lib.toList_data, Lib.toList_data]
  rfl
theorem aw_find0 : findN (nameB T0) (aw [] T1) 0 = 0 := by
  unfold aw findN
  rw [if_pos (by rw [t0_name]; rfl)]
  rfl
theorem aw_find1 : findN (nameB T1) (aw [] T1) 0 = -1 := by
  unfold aw findN
  rw [if_neg (by rw [t0_name]; decide)]
  rfl
theorem nilC {α : Type} {d : Kd α} {W : World} : d.C W none 0 [] := ⟨rfl, by simp, fun h => absurd h (Nat.lt_irrefl 0)⟩
theorem caw {W : World} {g : Nat} (l : List Arg) (n : ByteArray) (A : Option Addr) (c : Nat) (hl : l.length ≤ c) (hA : CA W A l)
    (h1 : ∀ (i : Nat) (u : Value), ([.int .i64 1, .string ⟨#[73, 110, 116]⟩, .slice A l.length c, .slice none 0 0, .slice none 0 0, .int .i64 2, .string n, .slice none 0 0, .slice none 0 0, .slice none 0 0] : List Value)[i]? = some u → W.cell? ⟨g, i, none⟩ = some u)
    (h2 : ∀ (i : Nat) (u : Value), ([.string T0, .slice (some ⟨g, 0, none⟩) 2 2] : List Value)[i]? = some u → W.cell? ⟨g + 1, i, none⟩ = some u) : CF W (some ⟨g + 1, 0, none⟩) (aw l n) := by
  have e : ∀ α (d : Kd α), d.C W none 0 [] := fun α d => ⟨rfl, by simp, fun h => absurd h (Nat.lt_irrefl 0)⟩
  have k1 : CS W (some ⟨g, 0, none⟩) [sInt l, sCall n] :=
    lit2 (cs := [.int .i64 1, .string ⟨#[73, 110, 116]⟩, .slice A l.length c, .slice none 0 0, .slice none 0 0]) (ds := [.int .i64 2, .string n, .slice none 0 0, .slice none 0 0, .slice none 0 0]) rfl rfl
      (PFragcheckChecks.k32_mk W (sInt l) hl hA (Nat.le_refl 0) (e _ _) (Nat.le_refl 0) (e _ _)) (PFragcheckChecks.k32_mk W (sCall n) (Nat.le_refl 0) (e _ _) (Nat.le_refl 0) (e _ _) (Nat.le_refl 0) (e _ _)) h1
  exact lit1 rfl (PFragcheckChecks.k34_mk W ⟨T0, [sInt l, sCall n]⟩ (Nat.le_refl 2) k1) h2
set_option maxHeartbeats 4000000 in
set_option maxRecDepth 100000 in
theorem awake20_calls (h : St B w0 w R) :
    Calls Try.prog 10 #[] w fun e w' => e = .returned (.bool true) ∧ St B w0 w' R := by
  generalize hg : w.heap.size = g
  have H0 := Lib.hid (alloc_at (n := g) h (.cells #[.bool false, .int .i64 0, .string ⟨#[]⟩, .bool false, .int .i64 7, .string ⟨#[]⟩] 73) hg.symm)
  have H1 := Lib.hid (alloc_at (n := g + 1) H0.out (.cells #[.int .i64 1, .string ⟨#[73, 110, 116]⟩, .slice (some ⟨g, 0, none⟩) 2 2, .slice none 0 0, .slice none 0 0, .int .i64 2, .string T0, .slice none 0 0, .slice none 0 0, .slice none 0 0] 32) (by simp [hg]))
  have H2 := Lib.hid (alloc_at (n := g + 1 + 1) H1.out (.cells #[.string T0, .slice (some ⟨g + 1, 0, none⟩) 2 2] 34) (by simp [hg]))
  have HA : Hid (CA _ (some ⟨g, 0, none⟩) [A0, A7]) := Lib.hid (lit2 (cs := [.bool false, .int .i64 0, .string ⟨#[]⟩]) (ds := [.bool false, .int .i64 7, .string ⟨#[]⟩]) rfl rfl (PFragcheckChecks.k73_mk _ A0) (PFragcheckChecks.k73_mk _ A7) fun i u hu => H2.out.drop.drop.cell i (by simpa using hu))
  have HC := Lib.hid (caw [A0, A7] T0 _ 2 (Nat.le_refl 2) HA.out (fun i u hu => H2.out.drop.cell i (by simpa using hu)) (fun i u hu => H2.out.cell i (by simpa using hu)))
  clear h HA
  go_enter Try.func10, Try.ntmps10
  go_wp2_with fail
  refine (check_at _ 1 (aw [A0, A7] T0) H2.out HC.out (aw_ok _ _ (by decide) a07_ok (by decide))).mono ?_
  rintro e w1 ⟨rfl, h1⟩
  rw [aw_err0]
  have b1 := h1.cell 1 rfl
  have c2 := h1.two.cell 2 rfl
  have f2 := h1.two.free 2 (.inr (Nat.le_refl _))
  have H3 := Lib.hid (h1.two.set 2 (.slice none 0 0)).two
  have HC3 := Lib.hid (caw [] T0 none 0 (Nat.le_refl 0) nilC (fun i u hu => H3.out.drop.cell i (by simpa using hu)) (fun i u hu => H3.out.cell i (by simpa using hu)))
  clear h1 H0 H1 H2 HC
  go_wp2_with fail
  refine (check_at _ 1 (aw [] T0) H3.out HC3.out (aw_ok _ _ (by decide) no_mem (by decide))).mono ?_
  rintro e w2 ⟨rfl, h2⟩
  rw [aw_err12]
  have c6 := h2.two.cell 6 rfl
  have f6 := h2.two.free 6 (.inr (Nat.le_refl _))
  have b2 := h2.cell 1 rfl
  have H4 := Lib.hid (h2.two.set 6 (.string T1)).two
  have HC4 := Lib.hid (caw [] T1 none 0 (Nat.le_refl 0) nilC (fun i u hu => H4.out.drop.cell i (by simpa using hu)) (fun i u hu => H4.out.cell i (by simpa using hu)))
  clear h2 H3 HC3 b1 c2 f2
  go_wp2_with fail
  refine (check_at _ 1 (aw [] T1) H4.out HC4.out (aw_ok _ _ (by decide) no_mem (by decide))).mono ?_
  rintro e w3 ⟨rfl, h3⟩
  rw [aw_err7]
  have H5 := Lib.hid h3
  have HC5 := Lib.hid (caw [] T1 none 0 (Nat.le_refl 0) nilC (fun i u hu => H5.out.drop.cell i (by simpa using hu)) (fun i u hu => H5.out.cell i (by simpa using hu)))
  clear h3 H4 HC4 b2 c6 f6
  go_wp2_with fail
  refine (find_at2 _ 1 (aw [] T1) T0 H5.out HC5.out).mono ?_
  rintro e w4 ⟨rfl, h4⟩
  rw [aw_find0]
  have H6 := Lib.hid h4
  have HC6 := Lib.hid (caw [] T1 none 0 (Nat.le_refl 0) nilC (fun i u hu => H6.out.drop.cell i (by simpa using hu)) (fun i u hu => H6.out.cell i (by simpa using hu)))
  clear h4 H5 HC5
  go_wp2_with fail
  refine (find_at2 _ 1 (aw [] T1) T1 H6.out HC6.out).mono ?_
  rintro e w5 ⟨rfl, h5⟩
  rw [aw_find1]
  have H7 := Lib.hid h5
  clear h5 H6 HC6
  go_wp2
  go_ret
  exact ⟨rfl, H7.out.drop.drop.drop⟩
end Go.Proofs.Ytbjddomocggjmaa.Fc
