/- owned of scope: walked. -/
import Derived.Test.YtbjddomocggjmaaJB
import Derived.Test.YtbjddomocggjmaaJW
import Derived.Test.YtbjddomocggjmaaJY
import Derived.Test.YtbjddomocggjmaaJZ
section
namespace Go.Proofs.Ytbjddomocggjmaa.Sc
def emptyB (c : Con) : Bool := if c.f0 = 0 then true else if c.f0 = 1 then c.f3 || (decide (c.f1 ≤ 0) && (c.f4 || decide (c.f2 ≥ 0))) else false
/-- Is a type finite, if just those that are known are? Looked at so deep. -/
def finT (K : List UInt8 → Bool) : Nat → Ty → Bool
  | 0, _ => true
  | n + 1, t => if t.k = 11 then K t.n.data.toList else if t.k = 9 then emptyB t.c || (decide (t.el.length = 1) && t.el.all (finT K n))
    else if t.k = 8 then !(t.ps.any fun p => !p.o && decide (p.d.length = 0) && !finT K n p.t)
    else if t.k = 10 then t.ps.any fun p => finT K n p.t else true
def dotB (a b : ByteArray) : ByteArray := a ++ ⟨#[46]⟩ ++ b
def enNm (x : En) : List UInt8 := (dotB x.m x.n).data.toList
structure Fst where
  known : List (List UInt8)
  first : List (List UInt8)
  left : Nat
  grows : Bool
def stepF (s : Fst) (x : En) : Fst :=
  let again := s.first.contains (enNm x)
  let fin := finT s.known.contains 40 x.t
  if (again && fin || s.known.contains (enNm x) && !again) = true then { s with first := s.first ++ [enNm x] }
  else if (!again && fin) = true then ⟨s.known ++ [enNm x], s.first ++ [enNm x], s.left, true⟩
  else { s with first := s.first ++ [enNm x], left := s.left + 1 }
def roundF (K : List (List UInt8)) (l : List En) : Fst := l.foldl stepF ⟨K, [], 0, false⟩
def finLoop : Nat → List (List UInt8) → List En → Bool
  | 0, _, _ => false
  | n + 1, K, l => if (roundF K l).grows = true then finLoop n (roundF K l).known l else decide ((roundF K l).left = 0)
def finB (l : List En) : Bool := finLoop (l.length + 1) [] l
theorem nodup_len {α : Type} [DecidableEq α] : ∀ {a b : List α}, a.Nodup → (∀ x ∈ a, x ∈ b) → a.length ≤ b.length
  | [], _, _, _ => by simp
  | x :: a, b, hn, hs => by
    have hx : x ∈ b := hs x (by simp)
    obtain ⟨hxa, hna⟩ := List.nodup_cons.1 hn
    have h1 := nodup_len (b := b.erase x) hna fun y hy => by
      have hne : y ≠ x := fun e => hxa (e ▸ hy)
      exact (List.mem_erase_of_ne hne).2 (hs y (by simp [hy]))
    have h2 := List.length_erase_of_mem hx
    have h3 := List.length_pos_of_mem hx
    rw [List.length_cons]
    omega
end Go.Proofs.Ytbjddomocggjmaa.Sc
end
section
namespace Go.Proofs.Ytbjddomocggjmaa.Sc
open Go.RowKit
abbrev FM := List (List UInt8 × ByteArray)
def dfNames (m : Md) : List ByteArray := m.df.map fun d => d.n
def mdNames (l : List Md) : List ByteArray := l.map fun m => m.n
/-- A module's own types and what they stand for. -/
def ownP (m : Md) : FM := m.df.map fun d => (d.n.data.toList, dotB m.n d.n)
/-- Has a module of such a name such a type of its own? -/
def ownHas (l : List Md) (fr s : ByteArray) : Bool := (l.find? fun m => m.n.data.toList == fr.data.toList).any fun m => (kys (dfNames m)).contains s.data.toList
def impN (h : ByteArray → ByteArray → Bool) (fr : ByteArray) : FM → List ByteArray → Option FM
  | fm, [] => some fm
  | fm, s :: r => if ((lookS fm s.data.toList).isSome || !h fr s) = true then none else impN h fr (fm ++ [(s.data.toList, dotB fr s)]) r
def impI (h : ByteArray → ByteArray → Bool) : FM → List Im → Option FM
  | fm, [] => some fm
  | fm, x :: r => (impN h x.f1 fm x.f0).bind fun fm' => impI h fm' r
def enOf (f : List UInt8 → Option ByteArray) (m : Md) (d : Df) : Option En := (typP f 40 d.t).map fun t => ⟨m.n, d.n, m.au, t⟩
def modP (h : ByteArray → ByteArray → Bool) (m : Md) : Option (List En) := (impI h (ownP m) m.im).bind fun fm => mapO (enOf (lookS fm) m) m.df
def allP (l : List Md) : Option (List En) := (mapO (modP (ownHas l)) l).map List.flatten
def badB (l : List Md) : Bool := decide (256 < l.length) || l.any fun m => !mdB m
def dupB (l : List Md) : Bool := !onceB (mdNames l) || l.any fun m => !onceB (dfNames m)
/-- Resolve: its error and its entries. -/
def resP (l : List Md) : Int × List En :=
  if badB l = true then (1, []) else if dupB l = true then (7, []) else match allP l with
    | none => (7, [])
    | some y => if finB y = true then (0, y) else (9, [])
theorem onceB_snoc (l : List ByteArray) {s : ByteArray} (h : s ∈ l) : onceB (l ++ [s]) = false := by
  unfold onceB
  rw [decide_eq_false_iff_not, kys, List.map_append, List.nodup_append]
  intro ⟨_, _, h3⟩
  exact h3 _ (List.mem_map.2 ⟨s, h, rfl⟩) _ (by simp) rfl
theorem res_ok {l : List Md} (h : (resP l).1 = 0) : badB l = false ∧ dupB l = false ∧ ∃ y, allP l = some y ∧ finB y = true ∧ (resP l).2 = y := by
  unfold resP at h ⊢
  cases h1 : badB l with
  | true => rw [h1, if_pos rfl] at h; cases h
  | false =>
    rw [h1, if_neg (by simp)] at h
    cases h2 : dupB l with
    | true => rw [h2, if_pos rfl] at h; cases h
    | false =>
      rw [h2, if_neg (by simp)] at h
      cases h3 : allP l with
      | none => rw [h3] at h; cases h
      | some y =>
        rw [h3] at h
        dsimp only at h
        cases h4 : finB y with
        | false => rw [h4, if_neg (by simp)] at h; cases h
        | true => exact ⟨rfl, rfl, y, rfl, h4, by dsimp only; rw [if_pos h4]; rfl⟩
theorem bad_false {l : List Md} : badB l = false ↔ l.length ≤ 256 ∧ ∀ m ∈ l, mdB m = true := by
  unfold badB
  rw [Bool.or_eq_false_iff, decide_eq_false_iff_not, List.any_eq_false]
  simp
theorem dup_false {l : List Md} : dupB l = false ↔ onceB (mdNames l) = true ∧ ∀ m ∈ l, onceB (dfNames m) = true := by
  unfold dupB
  rw [Bool.or_eq_false_iff, List.any_eq_false]
  simp
theorem res_dup {l : List Md} (h1 : badB l = false) (h2 : dupB l = true) : (resP l).1 = 7 := by
  unfold resP
  rw [h1, if_neg (by simp), h2, if_pos rfl]
/-- A module twice. -/
theorem res_twice {l : List Md} {m : Md} (h : (resP l).1 = 0) (hm : m ∈ l) (hl : l.length ≤ 255) : (resP (l ++ [m])).1 = 7 := by
  obtain ⟨h1, -⟩ := res_ok h
  obtain ⟨h2, h3⟩ := bad_false.1 h1
  refine res_dup (bad_false.2 ⟨by simp; omega, fun x hx => ?_⟩) ?_
  · rcases List.mem_append.1 hx with hx | hx
    · exact h3 x hx
    · rw [List.mem_singleton.1 hx]; exact h3 m hm
  · unfold dupB
    rw [mdNames, List.map_append, List.map_singleton, onceB_snoc _ (List.mem_map.2 ⟨m, hm, rfl⟩)]
    rfl
/-- A type twice. -/
theorem res_def {l : List Md} {m : Md} {d : Df} (h : (resP l).1 = 0) (hm : m ∈ l) (hd : d ∈ m.df) (hl : m.df.length ≤ 255) : mdB ⟨m.n, m.au, m.im, m.df ++ [d]⟩ = true ∧ (resP [⟨m.n, m.au, m.im, m.df ++ [d]⟩]).1 = 7 := by
  obtain ⟨h1, -⟩ := res_ok h
  obtain ⟨h2, h3⟩ := bad_false.1 h1
  have h4 := h3 m hm
  have h5 : mdB ⟨m.n, m.au, m.im, m.df ++ [d]⟩ = true := by
    unfold mdB at h4 ⊢
    simp only [Bool.and_eq_true, Bool.not_eq_true', decide_eq_false_iff_not, List.all_append, List.length_append, List.length_singleton] at h4 ⊢
    refine ⟨⟨h4.1.1, by omega⟩, h4.2.1, h4.2.2, ?_⟩
    have := List.all_eq_true.1 h4.2.2 d hd
    simp [this]
  refine ⟨h5, res_dup (bad_false.2 ⟨by simp, fun x hx => ?_⟩) ?_⟩
  · rw [List.mem_singleton.1 hx]; exact h5
  · unfold dupB
    rw [Bool.or_eq_true, List.any_eq_true]
    refine .inr ⟨_, List.mem_singleton.2 rfl, ?_⟩
    rw [dfNames, List.map_append, List.map_singleton, onceB_snoc _ (List.mem_map.2 ⟨d, hd, rfl⟩)]
    rfl
/-- A type that cannot be named. -/
theorem res_none {l : List Md} {m : Md} (h : ∀ h, modP h m = none) (hm : m ∈ l) : (resP l).1 = 7 ∨ (resP l).1 = 1 := by
  unfold resP
  cases h1 : badB l with
  | true => exact .inr rfl
  | false =>
    rw [if_neg (by simp)]
    cases h2 : dupB l with
    | true => exact .inl rfl
    | false =>
      rw [if_neg (by simp)]
      have : allP l = none := by
        unfold allP
        rw [mapO_none hm (h _)]
        rfl
      rw [this]
      exact .inl rfl
end Go.Proofs.Ytbjddomocggjmaa.Sc
end
section
namespace Go.Proofs.Ytbjddomocggjmaa.Sc
open Go.RowKit Go.ChangeShapes Go.WideShapes Go.Proofs.Ytbjddomocggjmaa.Sep
open Go.Proofs.YtbjddomocggjmaaW.PrintWords
variable {B : Nat} {w0 w : World} {R : HP}
/-- What is owned, if so. -/
def onlyIf (q : Bool) (A C : HP) : HP := cond q A C
theorem take_next {α β : Type} (f : α → β) {l : List α} {x : Int} {r : α} (h0 : 0 ≤ x) (h : l[x.toNat]? = some r) : (l.map f).take (x + 1).toNat = (l.map f).take x.toNat ++ [f r] := by
  have e : (x + 1).toNat = x.toNat + 1 := by omega
  rw [e, List.take_add_one, List.getElem?_map, h]
  rfl
theorem strM_snoc (fm : FM) (k : List UInt8) (s : ByteArray) : strM (fm ++ [(k, s)]) = strM fm ++ [(k, .string s)] := by simp [strM]
theorem kys_snoc (l : List ByteArray) (s : ByteArray) : kys (l ++ [s]) = kys l ++ [s.data.toList] := by simp [kys]
theorem once_take {l : List ByteArray} {j : Nat} {s : ByteArray} (h : l.take (j + 1) = l.take j ++ [s]) (hq : (kys (l.take j)).contains s.data.toList = true) : onceB l = false := by
  unfold onceB
  rw [decide_eq_false_iff_not]
  intro hnd
  have h1 : (kys (l.take (j + 1))).Nodup := by
    have e : kys (l.take (j + 1)) = (kys l).take (j + 1) := by simp [kys, List.map_take]
    rw [e]
    exact hnd.sublist (List.take_sublist _ _)
  rw [h, kys_snoc, List.nodup_append] at h1
  exact h1.2.2 _ (List.contains_iff_mem.1 hq) _ (by simp) rfl
theorem nodup_next {l : List ByteArray} {j : Nat} {s : ByteArray} (h : l.take (j + 1) = l.take j ++ [s]) (hn : (kys (l.take j)).Nodup) (hq : (kys (l.take j)).contains s.data.toList = false) : (kys (l.take (j + 1))).Nodup := by
  rw [h, kys_snoc, List.nodup_append]
  refine ⟨hn, by simp, fun a ha b hb => ?_⟩
  obtain rfl := List.mem_singleton.1 hb
  rintro rfl
  rw [List.contains_iff_mem.2 ha] at hq
  cases hq
set_option maxHeartbeats 16000000 in
set_option maxRecDepth 100000 in
theorem owned_calls (m : Md) (A2 : Option Addr) (c2 : Nat) (A3 : Option Addr) (c3 : Nat) (h : S w0 w R) (l3 : kDf.C w0 A3 m.df.length m.df) (ho : oMd m) (hl : m.df.length ≤ 256) :
    Calls Try.prog 46 #[.agg #[.string m.n, .bool m.au, .slice A2 m.im.length c2, .slice A3 m.df.length c3]] w fun e w' => ∃ b bo, e = .returned (.tuple #[.agg #[.map (some b), .map (some bo)], .bool (onceB (dfNames m))]) ∧
      S w0 w' (onlyIf (onceB (dfNames m)) (MapV b (strM (ownP m)) • (MapV bo (setM (kys (dfNames m))) • R)) R) := by
  have hl' : m.df.length ≤ 9223372036854775807 := by omega
  have HA := Lib.hid (And.intro l3 (And.intro ho hl))
  have hmm := @run_makeMap Try.prog
  generalize hg : w.heap.size = g
  have H := Lib.hid (alloc_at (n := g + 4) (mv_made (n := g + 3) (mv_made (n := g + 2) (alloc_at (n := g + 1) (alloc_at (n := g) h (.cells #[.string m.n, .bool m.au, .slice A2 m.im.length c2, .slice A3 m.df.length c3] 47) hg.symm) (.cells #[.map none, .map none] 89) (by simp [hg])) (by simp [hg])) (by simp [hg])) (.cells #[.map none, .map none] 89) (by simp [hg]))
  clear h l3 ho hl
  go_enter Try.func46, Try.ntmps46
  go_wp2_with (refine held_store _ _ _ rfl ?_)
  refine ⟨?_⟩
  refine wpList_store_off rfl rfl [.map (some (g + 2)), .map (some (g + 3))] rfl rfl rfl (by kernel_rfl) (by simp [Value.oneCell']) H.out (by simp) (new := #[.map (some (g + 2)), .map (some (g + 3))]) rfl ?_
  intro w5 h5
  have H5 := Lib.hid h5.two.three.three
  have e3 := (five h5).cell 3 rfl
  clear h5 H hmm
  go_wp2
  go_loopw [13] (fun v wr => ∃ x : Int, 0 ≤ x ∧ x ≤ m.df.length ∧ v = .int .i64 x ∧ Hid (S w0 wr (Blk (g + 4) (.cells #[.map (some (g + 2)), .map (some (g + 3))] 89) • (MapV (g + 2) (strM ((ownP m).take x.toNat)) • (MapV (g + 3) (setM (kys ((dfNames m).take x.toNat))) • (Blk (g + 1) (.cells #[.map none, .map none] 89) • (Blk g (.cells #[.string m.n, .bool m.au, .slice A2 m.im.length c2, .slice A3 m.df.length c3] 47) • R)))))) ∧ Hid ((kys ((dfNames m).take x.toNat)).Nodup)) (fun v _ => m.df.length - (intOf v).toNat)
  case atStart => exact ⟨0, Int.le_refl _, by omega, rfl, H5, Lib.hid (by simp [kys])⟩
  case round =>
    clear H5 e3
    obtain ⟨x, hx0, hx1, rfl, HR, HT⟩ := hrel
    by_cases hlt : x < m.df.length
    · obtain ⟨ad, cs, rfl, hcl, hK, hcell0⟩ := Kd.C_get HA.out.1 zDf x hx0 hlt
      have hcell : ∀ (j : Nat) (u : Value), cs[j]? = some u → w0.cell? (ad.add (x.toNat * 16 + j)) = some u := hcell0
      have HG := Lib.hid (getD_mem m.df zDf x hx0 hlt)
      generalize m.df.getD x.toNat zDf = r at *
      have hcl : cs.length = 16 := hcl
      have hc0 : cs[0]? = some (.string r.n) := by obtain ⟨ts, rfl, -⟩ := kDf_open hK; rfl
      have h1 : ∀ u ∈ cs, u.oneCell' = true := kDf.K_one hK
      have hor := HA.out.2.1.2.2.2 r (List.mem_of_getElem? HG.out)
      have hs : r.n.size ≤ maxLen := by have := hor.1; simp only [oS, M] at this; simp only [maxLen]; omega
      have HC := Lib.hid (And.intro hcell (And.intro hcl (And.intro hc0 (And.intro h1 hs))))
      have p126 := eq_true hx0
      have q126 : (x < (m.df.length : Int)) = True := eq_true hlt
      have HK := Lib.hid (And.intro (take_next (fun d : Df => d.n) hx0 HG.out) (take_next (fun d : Df => (d.n.data.toList, dotB m.n d.n)) hx0 HG.out))
      clear hcell hcell0 hcl hc0 hs h1 hK hor
      go_wp2_with (refine held_load 59 _ rfl ?_)
      refine ⟨?_⟩
      refine wpList_load_cells rfl 59 _ rfl _ rfl cs (elem_cells HR.out.below HC.out.1) _ Try.underlying59 rfl (by rw [HC.out.2.1]; kernel_rfl) ?_
      go_wp2_with (refine held_store _ _ _ rfl ?_)
      refine ⟨?_⟩
      refine wpList_store_off rfl rfl cs rfl rfl rfl (by rw [HC.out.2.1]; kernel_rfl) HC.out.2.2.2.1 (HR.out.alloc _) (by rw [HC.out.2.1]; simp) (new := cs.toArray) (fill_all (by rw [HC.out.2.1]; rfl)) ?_
      intro w6 h6
      have H6 := Lib.hid h6
      clear h6
      have e0 := H6.out.two.cell 0 rfl
      have e1 := H6.out.two.cell 1 rfl
      have d0 := H6.out.cell 0 (v := .string r.n) (by rw [List.getElem?_toArray]; exact HC.out.2.2.1)
      have lk := mv_look Try.underlying75 (zero_bool w6) (four H6.out) r.n HC.out.2.2.2.2
      rw [look_set] at lk
      have HN : Hid ((setM (kys ((dfNames m).take x.toNat))).length < maxLen ∧ (strM ((ownP m).take x.toNat)).length < maxLen) := Lib.hid (by
        have := HA.out.2.2
        simp only [setM, strM, kys, ownP, dfNames, List.length_map, List.length_take, maxLen]
        omega)
      cases hq : (kys ((dfNames m).take x.toNat)).contains r.n.data.toList with
      | true =>
        rw [hq] at lk
        have HZ := Lib.hid (once_take (j := x.toNat) (by have := HK.out.1; rwa [show (x + 1).toNat = x.toNat + 1 by omega] at this) hq)
        clear hq
        go_wp2_with (refine held_store _ _ _ rfl ?_)
        refine ⟨?_⟩
        refine wpList_store_off rfl rfl [.map (some (g + 2)), .map (some (g + 3))] rfl rfl rfl (by kernel_rfl) (by simp [Value.oneCell']) (five H6.out) (by simp) (new := #[.map (some (g + 2)), .map (some (g + 3))]) rfl ?_
        intro w7 h7
        have H7 := Lib.hid h7
        clear h7
        go_wp2
        refine bodyPost_ret (v := .tuple #[.agg #[.map (some (g + 2)), .map (some (g + 3))], .bool false]) (results_row_tmp Try.results46 _ _ (g + 1) _ _ (0, 0) _ rfl H7.out.block Try.underlying89 rfl (by kernel_rfl) rfl) rfl ⟨g + 2, g + 3, by rw [HZ.out], by rw [HZ.out]; exact H7.out.drop.drop.drop.drop.drop.drop⟩
      | false =>
        rw [hq] at lk
        have HZ := Lib.hid (nodup_next (j := x.toNat) (by have := HK.out.1; rwa [show (x + 1).toNat = x.toNat + 1 by omega] at this) HT.out hq)
        clear hq
        go_wp2_with (at_mapUpdate; refine HeldT.out ?_)
        refine ⟨?_⟩
        refine wpList_putV Try.underlying75 rfl _ _ _ rfl rfl _ rfl _ rfl (four H6.out) HC.out.2.2.2.2 HN.out.1 ?_
        intro w7 h7
        have H7 := Lib.hid h7
        clear h7 e0 e1 d0 lk
        have e0 := H7.out.three.cell 0 rfl
        have d0 := H7.out.two.cell 0 (v := .string r.n) (by rw [List.getElem?_toArray]; exact HC.out.2.2.1)
        have n0 := (six H7.out).cell 0 rfl
        have z1 : m.n.size ≤ 140737488355328 := HA.out.2.1.1
        have z2 : r.n.size ≤ 140737488355328 := by have := HC.out.2.2.2.2; exact (HA.out.2.1.2.2.2 r (List.mem_of_getElem? HG.out)).1
        have z3 : (m.n ++ (⟨#[46]⟩ : ByteArray)).size = m.n.size + 1 := ByteArray.size_append
        go_wp2_with (at_mapUpdate; refine HeldT.out ?_)
        refine ⟨?_⟩
        refine wpList_putV Try.underlying87 rfl _ _ _ rfl rfl _ rfl (.string (dotB m.n r.n)) rfl (four H7.out) HC.out.2.2.2.2 HN.out.2 ?_
        intro w8 h8
        have H8 : Hid (S w0 w8 (Blk (g + 4) (.cells #[.map (some (g + 2)), .map (some (g + 3))] 89) • (MapV (g + 2) (strM ((ownP m).take (x + 1).toNat)) • (MapV (g + 3) (setM (kys ((dfNames m).take (x + 1).toNat))) • (Blk (g + 1) (.cells #[.map none, .map none] 89) • (Blk g (.cells #[.string m.n, .bool m.au, .slice A2 m.im.length c2, .slice (some ad) m.df.length c3] 47) • R)))))) := Lib.hid (by
          have e5 : dfNames m = m.df.map fun d => d.n := rfl
          have e6 : ownP m = m.df.map fun d => (d.n.data.toList, dotB m.n d.n) := rfl
          rw [e5, e6, HK.out.1, HK.out.2, strM_snoc, kys_snoc, setM_snoc]
          exact h8.three.drop.three)
        rw [← show (x + 1).toNat = x.toNat + 1 by omega] at HZ
        clear h8 e0 d0 n0 z1 z2 z3
        go_wp2
        exact ⟨⟨x + 1, by omega, by omega, by go_num, H8, HZ⟩, by simp only [intOf]; omega⟩
    · have hlt' : (x < (m.df.length : Int)) = False := eq_false hlt
      have hx : m.df.length ≤ x.toNat := by omega
      have HZ : Hid (onceB (dfNames m) = true) := Lib.hid (by
        unfold onceB
        rw [decide_eq_true_iff]
        have h := HT.out
        rwa [List.take_of_length_le (by simp only [dfNames, List.length_map]; omega)] at h)
      have HE := HR.out
      rw [show (dfNames m).take x.toNat = dfNames m from List.take_of_length_le (by simp only [dfNames, List.length_map]; omega), show (ownP m).take x.toNat = ownP m from List.take_of_length_le (by simp only [ownP, List.length_map]; omega)] at HE
      have HE2 := Lib.hid HE
      have e0 := HE.cell 0 rfl
      have e1 := HE.cell 1 rfl
      clear HE hx
      go_wp2_with (refine held_store _ _ _ rfl ?_)
      refine ⟨?_⟩
      refine wpList_store_off rfl rfl [.map (some (g + 2)), .map (some (g + 3))] rfl rfl rfl (by kernel_rfl) (by simp [Value.oneCell']) (four HE2.out) (by simp) (new := #[.map (some (g + 2)), .map (some (g + 3))]) rfl ?_
      intro w7 h7
      have H7 := Lib.hid h7
      clear h7
      go_wp2
      refine bodyPost_ret (v := .tuple #[.agg #[.map (some (g + 2)), .map (some (g + 3))], .bool true]) (results_row_tmp Try.results46 _ _ (g + 1) _ _ (0, 0) _ rfl H7.out.block Try.underlying89 rfl (by kernel_rfl) rfl) rfl ⟨g + 2, g + 3, by rw [HZ.out], by rw [HZ.out]; exact H7.out.drop.drop.three.drop⟩
end Go.Proofs.Ytbjddomocggjmaa.Sc
end
