/- The law ScopeTwice: words for its walk. -/
import Derived.Deep.Cut
import Derived.Deep.CutRange
import Derived.Laws.BitsLemmas
import Derived.Test.YtbjddomocggjmaaJAl
import Derived.Test.YtbjddomocggjmaaJAm
import Derived.Test.YtbjddomocggjmaaJAv
namespace Go.Proofs.Ytbjddomocggjmaa.Sc
open Go.RowKit Go.ChangeShapes Go.WideShapes Go.Proofs.Ytbjddomocggjmaa.Sep
open Go.Proofs.YtbjddomocggjmaaW.PrintWords
variable {B : Nat} {w0 w : World} {R : HP}
theorem and16 (n : Int) : bits .and .i64 n 65535 = n % 65536 := by
  have h127 : (BitVec.ofInt 64 65535).toNat = 2 ^ 16 - 1 := by decide
  have key : (BitVec.ofInt 64 n &&& BitVec.ofInt 64 65535).toNat = (n % ((2 ^ 64 : Nat) : Int)).toNat % 2 ^ 16 := by
    rw [BitVec.toNat_and, BitVec.toNat_ofInt, h127, Nat.and_two_pow_sub_one_eq_mod]
  show IntKind.i64.wrap ((BitVec.ofInt 64 n &&& BitVec.ofInt 64 65535).toNat : Nat) = n % 65536
  rw [key, IntKind.wrap_i64]
  omega
/-- append, where the order is drawn. -/
theorem step_app {P : Program} {ops : Array Oper} {o : Oper} {a : Act} {K : Act → World → Prop} {Q : Exit → Act → World → Prop} {X : Prop} (hw : Region.wanted o (yielded ops a.tmps) = true) (s x : Operand) {t e : TypeId} (ht : P.underlying t = some (.slice e)) {z : Value} {size bytes : Nat}
    (hi : (P.info? e).map (fun i => (i.zero, i.size, i.bytes)) = some (some z, size, bytes)) (hzs : z.cells.size = size) (hsz : 0 < size)
    (ho : o.op = .call { callee := .builtin .append, args := #[s, x], argTypes := #[t, t] }) (v : Value) (n : Nat) (xs : List Value)
    (hs : a.eval s = v) (h : St B w0 w (RowV e size v n xs • R)) {A : Option Addr} {m c : Nat} {news : List Value} (hx : a.eval x = .slice A m c) (hl : news.length = m * size) (hr : ∀ j u, news[j]? = some u → ∃ ad, A = some ad ∧ w.cell? (ad.add j) = some u) (h1 : ∀ u ∈ news, u.oneCell' = true) (h63 : n + m ≤ maxLen) (hb : (n + m) * bytes ≤ 140737488355328)
    (hK : ∀ v' w', St B w0 w' (RowV e size v' (n + m) (xs ++ news) • R) → K (a.put o.dst v') w') : if Region.wanted o (yielded ops a.tmps) = true then Oper.wp P o a w K Q else X := by
  rw [if_pos hw]
  exact wp_append s x ht hi hzs hsz ho v n xs hs h hx hl hr h1 h63 hb hK
theorem info_mds : (Try.prog.info? 47).map (fun i => (i.zero, i.size, i.bytes)) = some (some (.agg #[.string ByteArray.empty, .bool false, .slice none 0 0, .slice none 0 0]), 4, 72) := by kernel_rfl
theorem info_dfs : (Try.prog.info? 59).map (fun i => (i.zero, i.size, i.bytes)) = some (some (.agg #[.string ByteArray.empty, .int .i64 0, .string ByteArray.empty, .int .i64 0, .int .i64 0, .int .i64 0, .bool false, .bool false, .slice none 0 0, .bool false, .string ByteArray.empty, .slice none 0 0, .slice none 0 0, .slice none 0 0, .slice none 0 0, .slice none 0 0]), 16, 240) := by kernel_rfl
/-- A row that reads as a list, as a parameter. -/
theorem row_C {α : Type} {d : Kd α} {e : TypeId} {v : Value} {n : Nat} {l : List α} {xs : List Value} (hz : 0 < d.sz) (hn : n = l.length) (h : St B w0 w (RowV e d.sz v n xs • R)) (hR : Reps (d.K w) d.sz l xs) : ∃ A c, v = .slice A l.length c ∧ d.C w A l.length l := by
  subst hn
  obtain ⟨hl, A, c, rfl, hnc, hm, hc⟩ := h.reads
  refine ⟨A, c, rfl, rfl, by simp only [maxLen] at hm; omega, fun hn => ?_⟩
  have h0 : 0 < xs.length := by rw [hl]; exact Nat.mul_pos hn hz
  obtain ⟨ad, rfl, -⟩ := hc 0 _ (List.getElem?_eq_getElem h0)
  refine ⟨ad, rfl, fun j p hp => ⟨_, ?_, hR.2 j p hp, fun i u hu => ?_⟩⟩
  · have hj := (List.getElem?_eq_some_iff.1 hp).1
    have : j * d.sz + d.sz ≤ xs.length := by rw [hl, ← Nat.succ_mul]; exact Nat.mul_le_mul_right _ hj
    rw [List.length_take, List.length_drop]
    omega
  · rw [List.getElem?_take] at hu
    split at hu
    · rw [List.getElem?_drop] at hu
      obtain ⟨ad', e', h'⟩ := hc _ _ hu
      cases e'
      exact h'
    · cases hu
theorem rmod_at (m : Md) (cs : List Value) (h : St B w0 w R) (hK : kMd.K w m cs) (ho : oMd m) :
    Calls Try.prog 27 #[.agg cs.toArray] w fun e w' => e = .returned (.bool (mdB m)) ∧ St B w0 w' R :=
  (rmod_calls (w0 := w) (R := emp) m cs (St.start w) hK ho).mono fun _ _ ⟨h1, h2⟩ => ⟨h1, (nest h h2).drop⟩
/-- A type with an item twice. -/
def aaT : Ty := ⟨3, ⟨#[]⟩, zCon, false, ⟨#[]⟩, [⟨#[97]⟩, ⟨#[97]⟩], [], [], [], []⟩
def aaM (s : ByteArray) : Md := ⟨s ++ ⟨#[113]⟩, false, [], [⟨⟨#[65]⟩, aaT⟩]⟩
theorem aa_none (f : List UInt8 → Option ByteArray) : typP f 40 aaT = none := by
  show (if aaT.k = 11 then _ else _) = _
  rw [if_neg (by decide), if_neg]
  intro h
  exact absurd h.2 (by decide)
def enC (gs : Nat) : List Value := [.string ⟨#[65]⟩, .int .i64 3, .string ⟨#[]⟩, .int .i64 0, .int .i64 0, .int .i64 0, .bool false, .bool false, .slice none 0 0, .bool false, .string ⟨#[]⟩, .slice (some ⟨gs, 0, none⟩) 2 2, .slice none 0 0, .slice none 0 0, .slice none 0 0, .slice none 0 0]
theorem aa_K {s : ByteArray} {gs gd : Nat} {e1 e2 : TypeId} {f1 f2 : Nat × Nat} (hs : w.heap[gs]? = some (.cells #[.string ⟨#[97]⟩, .string ⟨#[97]⟩] e1 f1)) (hd : w.heap[gd]? = some (.cells (enC gs).toArray e2 f2)) : kMd.K w (aaM s) [.string (s ++ ⟨#[113]⟩), .bool false, .slice none 0 0, .slice (some ⟨gd, 0, none⟩) 1 1] := by
  have h1 : Kd.string.C w (some ⟨gs, 0, none⟩) 2 [⟨#[97]⟩, ⟨#[97]⟩] := blk_C (cs := [.string ⟨#[97]⟩, .string ⟨#[97]⟩]) hs (Reps.snoc (Reps.snoc (ps := []) (cs := []) (Reps.none _ _) (show Kd.string.K w ⟨#[97]⟩ [.string ⟨#[97]⟩] from rfl) rfl) (show Kd.string.K w ⟨#[97]⟩ [.string ⟨#[97]⟩] from rfl) rfl) (show 2 ≤ 1000 by decide)
  have h2 : kTy.K w aaT [.int .i64 3, .string ⟨#[]⟩, .int .i64 0, .int .i64 0, .int .i64 0, .bool false, .bool false, .slice none 0 0, .bool false, .string ⟨#[]⟩, .slice (some ⟨gs, 0, none⟩) 2 2, .slice none 0 0, .slice none 0 0, .slice none 0 0, .slice none 0 0] :=
    kTy_mk w aaT (A7 := none) (c7 := 0) (Nat.zero_le _) (c_empty _ _ _) (A10 := some ⟨gs, 0, none⟩) (c10 := 2) (Nat.le_refl _) h1 (A11 := none) (c11 := 0) (Nat.zero_le _) (c_empty _ _ _) (A12 := none) (c12 := 0) (Nat.zero_le _) (c_empty _ _ _) (A13 := none) (c13 := 0) (Nat.zero_le _) (c_empty _ _ _) (A14 := none) (c14 := 0) (Nat.zero_le _) (c_empty _ _ _)
  exact kMd_mk w (aaM s) (A2 := none) (c2 := 0) (Nat.zero_le _) (c_empty _ _ _) (A3 := some ⟨gd, 0, none⟩) (c3 := 1) (Nat.le_refl _) (blk_C hd (Reps.snoc (ps := []) (cs := []) (Reps.none _ _) (kDf_mk w ⟨⟨#[65]⟩, aaT⟩ h2) rfl) (show 1 ≤ 1000 by decide))
theorem aa_o {s : ByteArray} (hs : oS (s ++ (⟨#[113]⟩ : ByteArray))) : oMd (aaM s) := by
  refine ⟨hs, ⟨Nat.zero_le _, fun y hy => by cases hy⟩, (by decide : 1 ≤ M), fun d hd => ?_⟩
  rw [List.mem_singleton.1 hd]
  refine ⟨(by decide : 1 ≤ M), fun d => ?_⟩
  cases d with
  | zero => trivial
  | succ d =>
    have hz : ∀ d, oC d zCon := fun d => by
      cases d with
      | zero => trivial
      | succ d => exact ⟨by unfold i64; decide, by unfold i64; decide, by unfold i64; decide, by decide, fun x hx => by cases hx⟩
    refine ⟨(show i64 (3 : Int) by unfold i64; decide), (by decide : (0 : Nat) ≤ M), hz, (by decide : (0 : Nat) ≤ M), ⟨(by decide : 2 ≤ M), fun s hs => ?_⟩, ?_, ?_, ?_, ?_, ?_⟩
    · simp only [aaT, List.mem_cons, List.not_mem_nil, or_false, or_self] at hs
      rw [hs]; exact (by decide : 1 ≤ M)
    all_goals simp [oL, M, aaT]
/-- A type twice: how it reads. -/
theorem dd_K {m : Md} {d0 : Df} {A2 A3 : Option Addr} {c2 c3 : Nat} (l2 : m.im.length ≤ c2) (g2 : kIm.C w A2 m.im.length m.im) (l3 : (m.df ++ [d0]).length ≤ c3) (g3 : kDf.C w A3 (m.df ++ [d0]).length (m.df ++ [d0])) : kMd.K w ⟨m.n, m.au, m.im, m.df ++ [d0]⟩ [.string m.n, .bool m.au, .slice A2 m.im.length c2, .slice A3 (m.df ++ [d0]).length c3] :=
  kMd_mk w ⟨m.n, m.au, m.im, m.df ++ [d0]⟩ l2 g2 l3 g3
theorem dd_o {m : Md} {d0 : Df} (h : oMd m) (hd : d0 ∈ m.df) (hl : m.df.length ≤ 40) : oMd ⟨m.n, m.au, m.im, m.df ++ [d0]⟩ :=
  ⟨h.1, h.2.1, by show (m.df ++ [d0]).length ≤ M; simp [M]; omega, fun y hy => (List.mem_append.1 hy).elim (h.2.2.2 y) fun hy => by rw [List.mem_singleton.1 hy]; exact h.2.2.2 d0 hd⟩
theorem res_aa (l : List Md) (s : ByteArray) : (resP (l ++ [aaM s])).1 = 7 ∨ (resP (l ++ [aaM s])).1 = 1 :=
  res_none (m := aaM s) (fun h => by
    show mapO (enOf (lookS (ownP (aaM s))) (aaM s)) [⟨⟨#[65]⟩, aaT⟩] = none
    exact mapO_none (List.mem_singleton.2 rfl) (by unfold enOf; rw [show (⟨⟨#[65]⟩, aaT⟩ : Df).t = aaT from rfl, aa_none]; rfl)) (by simp)
end Go.Proofs.Ytbjddomocggjmaa.Sc
