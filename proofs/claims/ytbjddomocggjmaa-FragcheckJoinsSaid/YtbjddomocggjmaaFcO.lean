/- Fragments in memory: what a parameter reads as, and how long its lists and texts may be. -/
import Derived.Test.YtbjddomocggjmaaPFragcheckChecksx7
import Derived.Test.YtbjddomocggjmaaOpen
import Derived.KernelRfl
import Derived.Lib.Hide
namespace Go.Proofs.Ytbjddomocggjmaa.Fc
open Go.RowKit Go.ChangeShapes Go.WideShapes Go.Proofs.Ytbjddomocggjmaa.Open Go.Proofs.Ytbjddomocggjmaa.Sep Go.Proofs.YtbjddomocggjmaaW.PrintWords

abbrev Arg := PFragcheckChecks.S73
abbrev Stmt := PFragcheckChecks.S32
abbrev Func := PFragcheckChecks.S34
def M : Nat := 140737488351232
theorem reach_M : reachBytes = M := rfl
def i64 (x : Int) : Prop := -9223372036854775808 ≤ x ∧ x ≤ 9223372036854775807
def okA (a : Arg) : Prop := i64 a.f1 ∧ a.f2.size ≤ M
def okS : Nat → Stmt → Prop
  | 0, _ => True
  | d + 1, s => i64 s.f0 ∧ s.f1.size ≤ M ∧ s.f2.length ≤ M ∧ s.f3.length ≤ M ∧ s.f4.length ≤ M ∧ (∀ a ∈ s.f2, okA a) ∧ (∀ x ∈ s.f3, okS d x) ∧ ∀ x ∈ s.f4, okS d x
def okF (f : Func) : Prop := f.f0.size ≤ M ∧ f.f1.length ≤ M ∧ ∀ x ∈ f.f1, ∀ d, okS d x

section
variable {H : Type} {P : Program}
theorem weights_all_mem {e : TypeId} {l : List (DataW H)} {d : DataW H} (h : d ∈ l) : ∀ n ∈ d.weights P e, n ∈ DataW.weightsAll P e l := by
  induction l with
  | nil => cases h
  | cons x l ih =>
    intro n hn
    simp only [DataW.weightsAll, List.mem_append]
    rcases List.mem_cons.1 h with rfl | h
    · exact .inl hn
    · exact .inr (ih h n hn)
theorem all_sub {l m : List Nat} (h : m.all (· ≤ reachBytes) = true) (hs : ∀ n ∈ l, n ∈ m) : l.all (· ≤ reachBytes) = true :=
  List.all_eq_true.2 fun n hn => List.all_eq_true.1 h n (hs n hn)
/-- The weights of a struct's field are among the struct's. -/
theorem weights_field {t : TypeId} {fs : Array Field} {xs : List (DataW H × List MemPlace)} (ht : P.underlying t = some (.struct fs)) (hw : ((DataW.agg (xs.map (·.1))).weights P t).all (· ≤ reachBytes) = true) (i : Nat) (f : Field) (hf : fs[i]? = some f) (y : DataW H × List MemPlace) (hy : xs[i]? = some y) {T : TypeId} (hT : f.type = T) :
    (y.1.weights P T).all (· ≤ reachBytes) = true := by
  subst hT
  simp only [DataW.weights, ht] at hw
  refine all_sub hw fun n hn => DataW.weights_mem_each (j := i) (t := f.type) (d := y.1) ?_ ?_ n hn
  · rw [List.getElem?_map, Array.getElem?_toList, hf]; rfl
  · rw [List.getElem?_map, hy]; rfl
variable {enc : TypeId × Value → H} {W : World} {base : Nat} {spare : Nat → Bool} {held : Bool}
/-- A field of a struct that came in, with its weights. -/
theorem open_fieldW {t : TypeId} {fs : Array Field} {m : Nat} {cs : List Value} {xs : List (DataW H × List MemPlace)} (ht : P.underlying t = some (.struct fs))
    (hx : ∀ (i : Nat) (f : Field), fs[i]? = some f → DataW.trod enc P W base spare held m f.type ((cs.drop f.offset).take (P.cellsOf f.type)) = xs[i]?) (hl : xs.length = fs.size)
    (hw : ((DataW.agg (xs.map (·.1))).weights P t).all (· ≤ reachBytes) = true)
    (i : Nat) (f : Field) (hf : fs[i]? = some f) {T n : Nat} (hT : f.type = T) (hn : P.cellsOf T = n) : ∃ y, DataW.trod enc P W base spare held m T ((cs.drop f.offset).take n) = some y ∧ (y.1.weights P T).all (· ≤ reachBytes) = true := by
  have hi : i < xs.length := by rw [hl]; exact (Array.getElem?_eq_some_iff.1 hf).1
  have hw2 := weights_field ht hw i f hf xs[i] (List.getElem?_eq_getElem hi) hT
  subst hT hn
  exact ⟨xs[i], (hx i f hf).trans (List.getElem?_eq_getElem hi), hw2⟩
theorem open_listW {t e : TypeId} {size Bt : Nat} {α : Type} [Inhabited α] {K : World → List Value → α → Prop}
    (ht : P.underlying t = some (.slice e)) (hC : P.cellsOf e = size) (hs : 0 < size) (hB : P.bytesOf e = Bt) {fuel : Nat} (hK : ∀ n, n < fuel → ∀ cs y, cs.length = size → DataW.trod enc P W base spare held n e cs = some y → (y.1.weights P e).all (· ≤ reachBytes) = true → ∃ a, K W cs a) {v : Value} {x : DataW H × List MemPlace}
    (h : DataW.trod enc P W base spare held fuel t [v] = some x) (hw : (x.1.weights P t).all (· ≤ reachBytes) = true) : ∃ xs, SliceOf K size W v xs ∧ xs.length * Bt ≤ M := by
  rcases DataW.trod_slice ht h with ⟨hcs, _⟩ | ⟨a, len, cap, elems, rest, n, hn, hcs, hxe, _, hl, hm, hlen, hel, _, _⟩
  · simp only [List.cons.injEq, and_true] at hcs
    subst hcs
    exact ⟨[], ⟨none, 0, rfl, Nat.le_refl _, Nat.zero_le _, fun k x hx => by simp at hx⟩, by simp⟩
  · simp only [List.cons.injEq, and_true] at hcs
    subst hcs hxe
    simp only [DataW.weights, ht, List.all_cons, Bool.and_eq_true, decide_eq_true_eq, List.length_map, hB] at hw
    obtain ⟨hw1, hw2⟩ := hw
    have hat : ∀ k, k < len → ∃ cs y, W.cells? base (a.add (k * size)) size = some cs ∧ DataW.trod enc P W base spare held n e cs = some y ∧ (y.1.weights P e).all (· ≤ reachBytes) = true := by
      intro k hk
      have h1 := hel k hk
      rw [hC] at h1
      have hk2 : k < elems.length := by omega
      have h2 : elems[k]? = some (elems[k]'hk2) := List.getElem?_eq_getElem hk2
      rw [h2, Option.bind_eq_some_iff] at h1
      obtain ⟨cs, h3, h4⟩ := h1
      refine ⟨cs, _, h3, h4, all_sub hw2 fun q hq => List.mem_append_left _ (weights_all_mem (List.mem_map.2 ⟨elems[k], List.getElem_mem hk2, rfl⟩) q hq)⟩
    have hget : ∀ k, ∃ z : α, k < len → ∃ cs, W.cells? base (a.add (k * size)) size = some cs ∧ K W cs z := by
      intro k
      by_cases hk : k < len
      · obtain ⟨cs, y, h1, h2, h3⟩ := hat k hk
        obtain ⟨z, hz⟩ := hK n (by omega) cs y (World.cells?_some h1).2.1 h2 h3
        exact ⟨z, fun _ => ⟨cs, h1, hz⟩⟩
      · exact ⟨default, fun h => absurd h hk⟩
    have hsp : 0 < len → a.spot = none := by
      intro h0
      obtain ⟨cs, y, h1, h2, _⟩ := hat 0 h0
      obtain ⟨_, h3, h4⟩ := World.cells?_some h1
      have h5 := h4 0 hs
      rw [Nat.zero_mul, List.getElem?_eq_getElem (by omega)] at h5
      exact cell_spot h5
    refine ⟨(List.range len).map fun k => (hget k).choose, ⟨some a, cap, by simp, by simpa using hl, hm, fun k z hz => ?_⟩, ?_⟩
    · have hk : k < len := by
        have := (List.getElem?_eq_some_iff.1 hz).1
        simpa using this
      have hz2 : (hget k).choose = z := by
        rw [List.getElem?_map, List.getElem?_range hk] at hz
        simpa using hz
      obtain ⟨cs, h1, h2⟩ := (hget k).choose_spec hk
      rw [hz2] at h2
      obtain ⟨_, h3, h4⟩ := World.cells?_some h1
      have hae : a = ⟨a.block, a.off, none⟩ := by
        have := hsp (by omega)
        cases a
        simp_all
      rw [hae] at h4 ⊢
      refine ⟨a.block, a.off, cs, rfl, h3, fun i u hu => ?_, h2⟩
      have h5 := h4 i (by have := (List.getElem?_eq_some_iff.1 hu).1; omega)
      rw [Open.add_at, Open.add_at] at h5
      rw [h5, hu]
    · simp only [List.length_map, List.length_range]
      have : len * Bt ≤ (elems.length + rest.length) * Bt := Nat.mul_le_mul_right _ (by omega)
      rw [reach_M] at hw1
      omega
theorem open_strW {t : TypeId} {cs : List Value} {fuel : Nat} {x : DataW H × List MemPlace} (ht : P.underlying t = some .string) (h : DataW.trod enc P W base spare held fuel t cs = some x) (hw : (x.1.weights P t).all (· ≤ reachBytes) = true) : ∃ s : ByteArray, cs = [.string s] ∧ s.size ≤ M := by
  obtain ⟨s, h1, h2, _⟩ := DataW.trod_string ht h
  subst h2
  simp only [DataW.weights, List.all_cons, List.all_nil, Bool.and_true, reach_M] at hw
  have hw2 := of_decide_eq_true hw
  exact ⟨s, h1, by simpa using hw2⟩
end
/-- A slice as the printed kinds read it. -/
theorem c_of_slice {α : Type} {d : Kd α} {Ok : α → Prop} {size : Nat} {W : World} {A : Option Addr} {n cap : Nat} {l : List α} (hsz : d.sz = size) (h : SliceOf (fun W cs x => d.K W x cs ∧ Ok x) size W (.slice A n cap) l) : n = l.length ∧ l.length ≤ cap ∧ cap ≤ maxLen ∧ d.C W A l.length l ∧ ∀ x ∈ l, Ok x := by
  obtain ⟨A', c', h1, h2, h3, h4⟩ := h
  simp only [Value.slice.injEq] at h1
  obtain ⟨rfl, rfl, rfl⟩ := h1
  refine ⟨rfl, h2, h3, ⟨rfl, by simp only [maxLen] at h3; omega, fun hn => ?_⟩, fun x hx => ?_⟩
  · obtain ⟨g, off, _, rfl, _⟩ := h4 0 _ (List.getElem?_eq_getElem hn)
    refine ⟨_, rfl, fun j p hp => ?_⟩
    obtain ⟨g', off', cs, e, h5, h6, h7, _⟩ := h4 j p hp
    simp only [Option.some.injEq, Addr.mk.injEq, and_true] at e
    obtain ⟨rfl, rfl⟩ := e
    refine ⟨cs, h5.trans hsz.symm, h7, fun i u hu => ?_⟩
    rw [Open.add_at, hsz]
    have := h6 i u hu
    rwa [Nat.add_assoc] at this
  · obtain ⟨k, hk⟩ := List.getElem?_of_mem hx
    obtain ⟨_, _, _, _, _, _, _, h8⟩ := h4 k x hk
    exact h8

theorem len2 {α : Type} {l : List α} (h : l.length = 2) : ∃ a b, l = [a, b] := by
  match l, h with
  | [a, b], _ => exact ⟨a, b, rfl⟩
theorem len3 {α : Type} {l : List α} (h : l.length = 3) : ∃ a b c, l = [a, b, c] := by
  match l, h with
  | [a, b, c], _ => exact ⟨a, b, c, rfl⟩
theorem len5 {α : Type} {l : List α} (h : l.length = 5) : ∃ a b c d e, l = [a, b, c, d, e] := by
  match l, h with
  | [a, b, c, d, e], _ => exact ⟨a, b, c, d, e, rfl⟩
instance : Inhabited Arg := ⟨PFragcheckChecks.z73⟩
instance : Inhabited Stmt := ⟨PFragcheckChecks.z32⟩
instance : Inhabited Func := ⟨PFragcheckChecks.z34⟩
abbrev CA (W : World) (A : Option Addr) (l : List Arg) : Prop := PFragcheckChecks.k73.C W A l.length l
abbrev CS (W : World) (A : Option Addr) (l : List Stmt) : Prop := PFragcheckChecks.k32.C W A l.length l
abbrev CF (W : World) (A : Option Addr) (l : List Func) : Prop := PFragcheckChecks.k34.C W A l.length l
section
variable {H : Type} {enc : TypeId × Value → H} {W : World} {base : Nat} {spare : Nat → Bool} {held : Bool}
theorem open_arg (fuel : Nat) (cs : List Value) (x : DataW H × List MemPlace) (hl : cs.length = 3) (h : DataW.trod enc Try.prog W base spare held fuel 73 cs = some x) (hw : (x.1.weights Try.prog 73).all (· ≤ reachBytes) = true) :
    ∃ a : Arg, PFragcheckChecks.k73.K W a cs ∧ okA a := by
  obtain ⟨xs, m, hm, rfl, _, hxl, hx⟩ := DataW.trod_struct Try.underlying73 h
  obtain ⟨c0, c1, c2, rfl⟩ := len3 hl
  obtain ⟨y0, h0, -⟩ := open_fieldW Try.underlying73 hx hxl hw 0 _ rfl rfl (n := 1) (by kernel_rfl)
  obtain ⟨y1, h1, -⟩ := open_fieldW Try.underlying73 hx hxl hw 1 _ rfl rfl (n := 1) (by kernel_rfl)
  obtain ⟨y2, h2, w2⟩ := open_fieldW Try.underlying73 hx hxl hw 2 _ rfl rfl (n := 1) (by kernel_rfl)
  obtain ⟨n0, e0, -⟩ := DataW.trod_bool Try.underlying4 h0
  obtain ⟨n1, e1, -, v1⟩ := DataW.trod_int Try.underlying3 h1
  obtain ⟨n2, e2, v2⟩ := open_strW Try.underlying9 h2 w2
  have e0' : c0 = .bool n0 := by simpa using e0
  have e1' : c1 = .int .i64 n1 := by simpa using e1
  have e2' : c2 = .string n2 := by simpa using e2
  subst e0' e1' e2'
  exact ⟨⟨n0, n1, n2⟩, PFragcheckChecks.k73_mk W _, wf_i64 v1, v2⟩
theorem open_stmt (fuel : Nat) : ∀ (cs : List Value) (x : DataW H × List MemPlace), cs.length = 5 → DataW.trod enc Try.prog W base spare held fuel 32 cs = some x → (x.1.weights Try.prog 32).all (· ≤ reachBytes) = true →
    ∃ s : Stmt, PFragcheckChecks.k32.K W s cs ∧ ∀ d, okS d s := by
  induction fuel using Nat.strongRecOn with
  | ind fuel ih =>
    intro cs x hl h hw
    obtain ⟨xs, m, hm, rfl, _, hxl, hx⟩ := DataW.trod_struct Try.underlying32 h
    obtain ⟨c0, c1, c2, c3, c4, rfl⟩ := len5 hl
    obtain ⟨y0, h0, -⟩ := open_fieldW Try.underlying32 hx hxl hw 0 _ rfl rfl (n := 1) (by kernel_rfl)
    obtain ⟨y1, h1, w1⟩ := open_fieldW Try.underlying32 hx hxl hw 1 _ rfl rfl (n := 1) (by kernel_rfl)
    obtain ⟨y2, h2, w2⟩ := open_fieldW Try.underlying32 hx hxl hw 2 _ rfl rfl (n := 1) (by kernel_rfl)
    obtain ⟨y3, h3, w3⟩ := open_fieldW Try.underlying32 hx hxl hw 3 _ rfl rfl (n := 1) (by kernel_rfl)
    obtain ⟨y4, h4, w4⟩ := open_fieldW Try.underlying32 hx hxl hw 4 _ rfl rfl (n := 1) (by kernel_rfl)
    obtain ⟨n0, e0, -, v0⟩ := DataW.trod_int Try.underlying3 h0
    obtain ⟨n1, e1, v1⟩ := open_strW Try.underlying9 h1 w1
    obtain ⟨l2, hL2, b2⟩ := open_listW (K := fun W cs x => PFragcheckChecks.k73.K W x cs ∧ okA x) (size := 3) (Bt := 32) Try.underlying29 (by kernel_rfl) (by decide) (by kernel_rfl) (fun n _ cs y hl hy hw => open_arg n cs y hl hy hw) (v := c2) h2 w2
    obtain ⟨l3, hL3, b3⟩ := open_listW (K := fun W cs x => PFragcheckChecks.k32.K W x cs ∧ ∀ d, okS d x) (size := 5) (Bt := 96) Try.underlying30 (by kernel_rfl) (by decide) (by kernel_rfl) (fun n hn cs y hl hy hw => ih n (by omega) cs y hl hy hw) (v := c3) h3 w3
    obtain ⟨l4, hL4, b4⟩ := open_listW (K := fun W cs x => PFragcheckChecks.k32.K W x cs ∧ ∀ d, okS d x) (size := 5) (Bt := 96) Try.underlying30 (by kernel_rfl) (by decide) (by kernel_rfl) (fun n hn cs y hl hy hw => ih n (by omega) cs y hl hy hw) (v := c4) h4 w4
    have e0' : c0 = .int .i64 n0 := by simpa using e0
    have e1' : c1 = .string n1 := by simpa using e1
    subst e0' e1'
    obtain ⟨A2, p2, rfl, -⟩ := id hL2
    obtain ⟨A3, p3, rfl, -⟩ := id hL3
    obtain ⟨A4, p4, rfl, -⟩ := id hL4
    obtain ⟨-, g2, -, k2, o2⟩ := c_of_slice (d := PFragcheckChecks.k73) rfl hL2
    obtain ⟨-, g3, -, k3, o3⟩ := c_of_slice (d := PFragcheckChecks.k32) rfl hL3
    obtain ⟨-, g4, -, k4, o4⟩ := c_of_slice (d := PFragcheckChecks.k32) rfl hL4
    refine ⟨⟨n0, n1, l2, l3, l4⟩, PFragcheckChecks.k32_mk W ⟨n0, n1, l2, l3, l4⟩ g2 k2 g3 k3 g4 k4, fun d => ?_⟩
    cases d with
    | zero => trivial
    | succ d => exact ⟨wf_i64 v0, v1, by show l2.length ≤ M; omega, by show l3.length ≤ M; omega, by show l4.length ≤ M; omega, o2, fun x hx => o3 x hx d, fun x hx => o4 x hx d⟩
theorem open_func (fuel : Nat) (cs : List Value) (x : DataW H × List MemPlace) (hl : cs.length = 2) (h : DataW.trod enc Try.prog W base spare held fuel 34 cs = some x) (hw : (x.1.weights Try.prog 34).all (· ≤ reachBytes) = true) :
    ∃ f : Func, PFragcheckChecks.k34.K W f cs ∧ okF f := by
  obtain ⟨xs, m, hm, rfl, _, hxl, hx⟩ := DataW.trod_struct Try.underlying34 h
  obtain ⟨c0, c1, rfl⟩ := len2 hl
  obtain ⟨y0, h0, w0⟩ := open_fieldW Try.underlying34 hx hxl hw 0 _ rfl rfl (n := 1) (by kernel_rfl)
  obtain ⟨y1, h1, w1⟩ := open_fieldW Try.underlying34 hx hxl hw 1 _ rfl rfl (n := 1) (by kernel_rfl)
  obtain ⟨n0, e0, v0⟩ := open_strW Try.underlying9 h0 w0
  obtain ⟨l1, hL1, b1⟩ := open_listW (K := fun W cs x => PFragcheckChecks.k32.K W x cs ∧ ∀ d, okS d x) (size := 5) (Bt := 96) Try.underlying30 (by kernel_rfl) (by decide) (by kernel_rfl) (fun n _ cs y hl hy hw => open_stmt n cs y hl hy hw) (v := c1) h1 w1
  have e0' : c0 = .string n0 := by simpa using e0
  subst e0'
  obtain ⟨A1, p1, rfl, -⟩ := id hL1
  obtain ⟨-, g1, -, k1, o1⟩ := c_of_slice (d := PFragcheckChecks.k32) rfl hL1
  exact ⟨⟨n0, l1⟩, PFragcheckChecks.k34_mk W ⟨n0, l1⟩ g1 k1, v0, by show l1.length ≤ M; omega, o1⟩
/-- A parameter that is a list of functions, of statements, of arguments. -/
theorem open_funcsP {v : Value} {d : DataW H} {p : List MemPlace} (h : DataW.Trod enc Try.prog W base spare held 22 v d p) (hw : (d.weights Try.prog 22).all (· ≤ reachBytes) = true) (hv : ∃ a len cap, v = .slice a len cap) :
    ∃ A c l, v = .slice A l.length c ∧ l.length ≤ c ∧ CF W A l ∧ (∀ f ∈ l, okF f) ∧ l.length ≤ M := by
  obtain ⟨a, len, cap, rfl⟩ := hv
  obtain ⟨fuel, hf⟩ := h
  have hf' : DataW.trod enc Try.prog W base spare held fuel 22 [.slice a len cap] = some (d, p) := hf
  obtain ⟨l, hL, b⟩ := open_listW (K := fun W cs x => PFragcheckChecks.k34.K W x cs ∧ okF x) (size := 2) (Bt := 40) Try.underlying22 (by kernel_rfl) (by decide) (by kernel_rfl) (fun n _ cs y hl hy hw => open_func n cs y hl hy hw) hf' hw
  obtain ⟨rfl, g1, -, k1, o1⟩ := c_of_slice (d := PFragcheckChecks.k34) rfl hL
  exact ⟨a, cap, l, rfl, g1, k1, o1, by omega⟩
theorem open_stmtsP {v : Value} {d : DataW H} {p : List MemPlace} (h : DataW.Trod enc Try.prog W base spare held 30 v d p) (hw : (d.weights Try.prog 30).all (· ≤ reachBytes) = true) (hv : ∃ a len cap, v = .slice a len cap) :
    ∃ A c l, v = .slice A l.length c ∧ l.length ≤ c ∧ CS W A l ∧ (∀ f ∈ l, ∀ d, okS d f) ∧ l.length ≤ M := by
  obtain ⟨a, len, cap, rfl⟩ := hv
  obtain ⟨fuel, hf⟩ := h
  have hf' : DataW.trod enc Try.prog W base spare held fuel 30 [.slice a len cap] = some (d, p) := hf
  obtain ⟨l, hL, b⟩ := open_listW (K := fun W cs x => PFragcheckChecks.k32.K W x cs ∧ ∀ d, okS d x) (size := 5) (Bt := 96) Try.underlying30 (by kernel_rfl) (by decide) (by kernel_rfl) (fun n _ cs y hl hy hw => open_stmt n cs y hl hy hw) hf' hw
  obtain ⟨rfl, g1, -, k1, o1⟩ := c_of_slice (d := PFragcheckChecks.k32) rfl hL
  exact ⟨a, cap, l, rfl, g1, k1, o1, by omega⟩
theorem open_argsP {v : Value} {d : DataW H} {p : List MemPlace} (h : DataW.Trod enc Try.prog W base spare held 29 v d p) (hw : (d.weights Try.prog 29).all (· ≤ reachBytes) = true) (hv : ∃ a len cap, v = .slice a len cap) :
    ∃ A c l, v = .slice A l.length c ∧ l.length ≤ c ∧ CA W A l ∧ (∀ f ∈ l, okA f) ∧ l.length ≤ M := by
  obtain ⟨a, len, cap, rfl⟩ := hv
  obtain ⟨fuel, hf⟩ := h
  have hf' : DataW.trod enc Try.prog W base spare held fuel 29 [.slice a len cap] = some (d, p) := hf
  obtain ⟨l, hL, b⟩ := open_listW (K := fun W cs x => PFragcheckChecks.k73.K W x cs ∧ okA x) (size := 3) (Bt := 32) Try.underlying29 (by kernel_rfl) (by decide) (by kernel_rfl) (fun n _ cs y hl hy hw => open_arg n cs y hl hy hw) hf' hw
  obtain ⟨rfl, g1, -, k1, o1⟩ := c_of_slice (d := PFragcheckChecks.k73) rfl hL
  exact ⟨a, cap, l, rfl, g1, k1, o1, by omega⟩
end
end Go.Proofs.Ytbjddomocggjmaa.Fc
