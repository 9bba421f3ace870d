/- Bits, octets, texts of 0 and 1: plain lists, no program. -/
import Derived.Laws.BytesArg
namespace Go.Proofs.Ytomjgjdnlbpleaa.Bits

def b2i (b : Bool) : Int := if b then 1 else 0
theorem b2i_01 (b : Bool) : 0 ≤ b2i b ∧ b2i b ≤ 1 := by cases b <;> simp [b2i]

/-- The lowest bits of a number, the highest first. -/
def putB : Int → Nat → List Bool
  | _, 0 => []
  | v, w + 1 => putB (v / 2) w ++ [decide (v % 2 = 1)]
theorem putB_length (v : Int) (w : Nat) : (putB v w).length = w := by
  induction w generalizing v with
  | zero => rfl
  | succ w ih => simp [putB, ih]

/-- Bits as a number. -/
def getB (l : List Bool) : Int := l.foldl (fun a b => 2 * a + b2i b) 0
theorem getB_snoc (l : List Bool) (b : Bool) : getB (l ++ [b]) = 2 * getB l + b2i b := by simp [getB]
theorem getB_nil : getB [] = 0 := rfl
theorem snoc_ind {α : Type} {p : List α → Prop} (h0 : p []) (h1 : ∀ l b, p l → p (l ++ [b])) (l : List α) : p l := by
  have : ∀ n (l : List α), l.length = n → p l := by
    intro n
    induction n with
    | zero => intro l hl; rw [List.eq_nil_of_length_eq_zero hl]; exact h0
    | succ n ih =>
      intro l hl
      have hne : l ≠ [] := by intro e; subst e; simp at hl
      rw [← List.dropLast_concat_getLast hne]
      exact h1 _ _ (ih _ (by simp [hl]))
  exact this _ l rfl
theorem getB_range (l : List Bool) : 0 ≤ getB l ∧ getB l < 2 ^ l.length := by
  induction l using snoc_ind with
  | h0 => simp [getB]
  | h1 l b ih =>
    rw [getB_snoc, List.length_append, List.length_singleton, Int.pow_succ]
    have := b2i_01 b
    omega
theorem emod_two_mul (a m : Int) (hm : 0 < m) : a % (2 * m) = 2 * (a / 2 % m) + a % 2 := by
  have h1 := Int.emod_nonneg (a / 2) (Int.ne_of_gt hm)
  have h2 := Int.emod_lt_of_pos (a / 2) hm
  have h3 := Int.mul_ediv_add_emod (a / 2) m
  have h4 : a = 2 * (a / 2 % m) + a % 2 + 2 * m * (a / 2 / m) := by
    have : 2 * m * (a / 2 / m) = 2 * (m * (a / 2 / m)) := Int.mul_assoc ..
    omega
  rw [h4, Int.add_mul_emod_self_left, ← h4]
  exact Int.emod_eq_of_lt (by omega) (by omega)

theorem getB_putB (v : Int) (w : Nat) : getB (putB v w) = v % 2 ^ w := by
  induction w generalizing v with
  | zero => simp [putB, getB, Int.emod_one]
  | succ w ih =>
    rw [putB, getB_snoc, ih, Int.pow_succ]
    have hp : (0 : Int) < 2 ^ w := Int.pow_pos (by decide)
    have hb : b2i (decide (v % 2 = 1)) = v % 2 := by
      by_cases h : v % 2 = 1 <;> simp [b2i, h] <;> omega
    rw [hb, Int.mul_comm (2 ^ w) 2, emod_two_mul _ _ hp]

/-! ### Octets -/
def bitAt (l : List Bool) (i : Nat) : Int := b2i (l.getD i false)
theorem bitAt_01 (l : List Bool) (i : Nat) : 0 ≤ bitAt l i ∧ bitAt l i ≤ 1 := b2i_01 _
/-- The octet at a place. -/
def byteAt (l : List Bool) (i : Nat) : Int :=
  bitAt l (8 * i) * 128 + bitAt l (8 * i + 1) * 64 + bitAt l (8 * i + 2) * 32 + bitAt l (8 * i + 3) * 16 + bitAt l (8 * i + 4) * 8 + bitAt l (8 * i + 5) * 4 + bitAt l (8 * i + 6) * 2 + bitAt l (8 * i + 7)
/-- Bits in octets. -/
def pack (l : List Bool) : List Int := (List.range ((l.length + 7) / 8)).map (byteAt l)
theorem pack_length (l : List Bool) : (pack l).length = (l.length + 7) / 8 := by simp [pack]
theorem byteAt_range (l : List Bool) (i : Nat) : 0 ≤ byteAt l i ∧ byteAt l i < 256 := by
  unfold byteAt
  have h0 := bitAt_01 l (8 * i)
  have h1 := bitAt_01 l (8 * i + 1)
  have h2 := bitAt_01 l (8 * i + 2)
  have h3 := bitAt_01 l (8 * i + 3)
  have h4 := bitAt_01 l (8 * i + 4)
  have h5 := bitAt_01 l (8 * i + 5)
  have h6 := bitAt_01 l (8 * i + 6)
  have h7 := bitAt_01 l (8 * i + 7)
  omega
theorem pack_range (l : List Bool) : ∀ x ∈ pack l, 0 ≤ x ∧ x < 256 := by
  intro x hx
  simp only [pack, List.mem_map] at hx
  obtain ⟨i, _, rfl⟩ := hx
  exact byteAt_range l i
theorem bitAt_ge (l : List Bool) (i : Nat) (h : l.length ≤ i) : bitAt l i = 0 := by simp [bitAt, List.getD, List.getElem?_eq_none h, b2i]
theorem bitAt_snoc_lt (l : List Bool) (b : Bool) (i : Nat) (h : i < l.length) : bitAt (l ++ [b]) i = bitAt l i := by simp [bitAt, List.getD, List.getElem?_append_left h]
theorem bitAt_snoc_eq (l : List Bool) (b : Bool) : bitAt (l ++ [b]) l.length = b2i b := by simp [bitAt, List.getD]
theorem bitAt_snoc (l : List Bool) (b : Bool) (i : Nat) : bitAt (l ++ [b]) i = bitAt l i + if i = l.length then b2i b else 0 := by
  rcases Nat.lt_trichotomy i l.length with h | h | h
  · rw [bitAt_snoc_lt l b i h, if_neg (by omega)]; omega
  · subst h; rw [bitAt_snoc_eq, bitAt_ge l _ (Nat.le_refl _), if_pos rfl]; omega
  · rw [bitAt_ge l i (by omega), bitAt_ge (l ++ [b]) i (by simp; omega), if_neg (by omega)]; omega
theorem byteAt_snoc_other (l : List Bool) (b : Bool) (i : Nat) (h : i ≠ l.length / 8) : byteAt (l ++ [b]) i = byteAt l i := by
  unfold byteAt
  simp only [bitAt_snoc]
  repeat rw [if_neg (by omega)]
  omega
theorem byteAt_snoc (l : List Bool) (b : Bool) : byteAt (l ++ [b]) (l.length / 8) = byteAt l (l.length / 8) + b2i b * 2 ^ (7 - l.length % 8) := by
  have h := Nat.div_add_mod l.length 8
  have hr := Nat.mod_lt l.length (show 0 < 8 by decide)
  unfold byteAt
  simp only [bitAt_snoc]
  generalize l.length / 8 = q at h
  generalize hm : l.length % 8 = r at h hr
  have hc : r = 0 ∨ r = 1 ∨ r = 2 ∨ r = 3 ∨ r = 4 ∨ r = 5 ∨ r = 6 ∨ r = 7 := by omega
  rcases hc with rfl | rfl | rfl | rfl | rfl | rfl | rfl | rfl <;> simp only [← h] <;> simp <;> omega
theorem byteAt_low (l : List Bool) : byteAt l (l.length / 8) % 2 ^ (8 - l.length % 8) = 0 := by
  have h := Nat.div_add_mod l.length 8
  have hr := Nat.mod_lt l.length (show 0 < 8 by decide)
  unfold byteAt
  generalize l.length / 8 = q at h
  generalize hm : l.length % 8 = r at h hr
  have hz : ∀ i, r ≤ i → bitAt l (8 * q + i) = 0 := fun i hi => bitAt_ge l _ (by omega)
  have hc : r = 0 ∨ r = 1 ∨ r = 2 ∨ r = 3 ∨ r = 4 ∨ r = 5 ∨ r = 6 ∨ r = 7 := by omega
  have z0 := hz 0
  have z1 := hz 1
  have z2 := hz 2
  have z3 := hz 3
  have z4 := hz 4
  have z5 := hz 5
  have z6 := hz 6
  have z7 := hz 7
  simp only [Nat.add_zero] at z0
  rcases hc with rfl | rfl | rfl | rfl | rfl | rfl | rfl | rfl <;> simp at z0 z1 z2 z3 z4 z5 z6 z7 ⊢ <;> omega
theorem pack_snoc_new (l : List Bool) (b : Bool) (h : l.length % 8 = 0) : pack (l ++ [b]) = (pack l ++ [0]).set (l.length / 8) (byteAt l (l.length / 8) + b2i b * 2 ^ (7 - l.length % 8)) := by
  apply List.ext_getElem
  · simp [pack]; omega
  · intro i h1 h2
    simp [pack] at h1 h2
    rw [List.getElem_set]
    by_cases hi : l.length / 8 = i
    · subst hi
      rw [if_pos rfl]
      simp only [pack, List.getElem_map, List.getElem_range]
      exact byteAt_snoc l b
    · rw [if_neg hi]
      have h3 : i < (pack l).length := by simp [pack]; omega
      rw [List.getElem_append_left h3]
      simp only [pack, List.getElem_map, List.getElem_range]
      exact byteAt_snoc_other l b i (Ne.symm hi)
theorem pack_snoc_old (l : List Bool) (b : Bool) (h : l.length % 8 ≠ 0) : pack (l ++ [b]) = (pack l).set (l.length / 8) (byteAt l (l.length / 8) + b2i b * 2 ^ (7 - l.length % 8)) := by
  apply List.ext_getElem
  · simp [pack]; omega
  · intro i h1 h2
    simp [pack] at h1 h2
    rw [List.getElem_set]
    by_cases hi : l.length / 8 = i
    · subst hi
      rw [if_pos rfl]
      simp only [pack, List.getElem_map, List.getElem_range]
      exact byteAt_snoc l b
    · rw [if_neg hi]
      simp only [pack, List.getElem_map, List.getElem_range]
      exact byteAt_snoc_other l b i (Ne.symm hi)
/-- The row that a bit is written into: an octet 0 more where a new one begins. -/
def rowFor (l : List Bool) : List Int := if l.length % 8 = 0 then pack l ++ [0] else pack l
theorem rowFor_length (l : List Bool) : (rowFor l).length = l.length / 8 + 1 := by
  unfold rowFor
  split <;> simp [pack] <;> omega
theorem rowFor_at (l : List Bool) : (rowFor l)[l.length / 8]? = some (byteAt l (l.length / 8)) := by
  unfold rowFor
  split
  · rename_i h
    have hl : (pack l).length = l.length / 8 := by simp [pack]; omega
    rw [List.getElem?_append_right (by omega), hl]
    simp only [Nat.sub_self, List.getElem?_cons_zero, Option.some.injEq]
    have := byteAt_low l
    have hr := byteAt_range l (l.length / 8)
    rw [h] at this
    simp at this
    omega
  · rename_i h
    have : l.length / 8 < (l.length + 7) / 8 := by omega
    simp [pack, List.getElem?_range this]
theorem pack_snoc (l : List Bool) (b : Bool) : pack (l ++ [b]) = (rowFor l).set (l.length / 8) (byteAt l (l.length / 8) + b2i b * 2 ^ (7 - l.length % 8)) := by
  unfold rowFor
  split
  · exact pack_snoc_new l b (by assumption)
  · exact pack_snoc_old l b (by assumption)

/-! ### Filled up; octets as bits -/
def padN (n : Nat) : Nat := (8 - n % 8) % 8
/-- Filled up to whole octets. -/
def alignB (l : List Bool) : List Bool := l ++ List.replicate (padN l.length) false
theorem alignB_length (l : List Bool) : (alignB l).length = 8 * ((l.length + 7) / 8) := by simp [alignB, padN]; omega
theorem bitAt_append_false (l : List Bool) (k i : Nat) : bitAt (l ++ List.replicate k false) i = bitAt l i := by
  unfold bitAt
  congr 1
  simp only [List.getD]
  by_cases h : i < l.length
  · rw [List.getElem?_append_left h]
  · rw [List.getElem?_append_right (by omega), List.getElem?_eq_none (show l.length ≤ i by omega)]
    simp only [List.getElem?_replicate]
    split <;> rfl
theorem byteAt_congr {l m : List Bool} (h : ∀ i, bitAt l i = bitAt m i) (i : Nat) : byteAt l i = byteAt m i := by
  unfold byteAt
  simp only [h]
theorem pack_alignB (l : List Bool) : pack (alignB l) = pack l := by
  unfold pack
  rw [alignB_length]
  have e : (8 * ((l.length + 7) / 8) + 7) / 8 = (l.length + 7) / 8 := by omega
  rw [e]
  exact List.map_congr_left fun i _ => byteAt_congr (fun j => bitAt_append_false l _ j) i
theorem alignB_nil : alignB [] = [] := rfl
theorem alignB_of (l : List Bool) (h : l.length % 8 = 0) : alignB l = l := by simp [alignB, padN, h]
theorem alignB_idem (l : List Bool) : alignB (alignB l) = alignB l := alignB_of _ (by rw [alignB_length]; omega)

/-- Octets as bits. -/
def unpack (bs : List Int) : List Bool := bs.flatMap fun x => putB x 8
theorem unpack_nil : unpack [] = [] := rfl
theorem unpack_cons (x : Int) (bs : List Int) : unpack (x :: bs) = putB x 8 ++ unpack bs := rfl
theorem unpack_append (a b : List Int) : unpack (a ++ b) = unpack a ++ unpack b := by simp [unpack]
theorem unpack_length (bs : List Int) : (unpack bs).length = 8 * bs.length := by
  induction bs with
  | nil => rfl
  | cons x bs ih => rw [unpack_cons, List.length_append, putB_length, ih, List.length_cons]; omega
/-- A bit of octets. -/
theorem putB_get (v : Int) (w i : Nat) (h : i < w) : (putB v w)[i]? = some (decide (v / 2 ^ (w - 1 - i) % 2 = 1)) := by
  induction w generalizing v i with
  | zero => omega
  | succ w ih =>
    rw [putB]
    by_cases hi : i < w
    · rw [List.getElem?_append_left (by rw [putB_length]; exact hi), ih _ _ hi]
      have e : w + 1 - 1 - i = (w - 1 - i) + 1 := by omega
      rw [e, Int.pow_succ, Int.mul_comm, ← Int.ediv_ediv_of_nonneg (by decide)]
    · have : i = w := by omega
      subst this
      rw [List.getElem?_append_right (by rw [putB_length]; omega), putB_length]
      simp
theorem unpack_get (bs : List Int) (i : Nat) (h : i < 8 * bs.length) : (unpack bs)[i]? = some (decide (bs.getD (i / 8) 0 / 2 ^ (7 - i % 8) % 2 = 1)) := by
  induction bs generalizing i with
  | nil => simp at h
  | cons x bs ih =>
    rw [unpack_cons]
    by_cases hi : i < 8
    · rw [List.getElem?_append_left (by rw [putB_length]; exact hi), putB_get _ _ _ hi]
      have e1 : i / 8 = 0 := by omega
      have e2 : i % 8 = i := by omega
      rw [e1, e2]
      simp
    · rw [List.getElem?_append_right (by rw [putB_length]; omega), putB_length, ih (i - 8) (by simp at h; omega)]
      have e1 : i / 8 = (i - 8) / 8 + 1 := by omega
      have e2 : (i - 8) % 8 = i % 8 := by omega
      rw [e1, e2]
      simp
theorem byteAt_byte (x : Int) (h0 : 0 ≤ x) (h1 : x < 256) : ∀ l : List Bool, byteAt (putB x 8 ++ l) 0 = x := by
  intro l
  have hb : ∀ i, i < 8 → bitAt (putB x 8 ++ l) i = x / 2 ^ (7 - i) % 2 := by
    intro i hi
    unfold bitAt
    rw [List.getD, List.getElem?_append_left (by rw [putB_length]; exact hi), putB_get _ _ _ hi]
    show b2i (decide _) = _
    by_cases h : x / 2 ^ (8 - 1 - i) % 2 = 1 <;> simp [b2i, h] <;> simp at h <;> omega
  unfold byteAt
  rw [hb _ (by decide), hb _ (by decide), hb _ (by decide), hb _ (by decide), hb _ (by decide), hb _ (by decide), hb _ (by decide), hb _ (by decide)]
  simp
  omega
theorem bitAt_skip (a l : List Bool) (i : Nat) : bitAt (a ++ l) (a.length + i) = bitAt l i := by
  unfold bitAt
  rw [List.getD, List.getD, List.getElem?_append_right (by omega)]
  congr 3
  omega
theorem byteAt_skip (a l : List Bool) (q i : Nat) (h : a.length = 8 * q) : byteAt (a ++ l) (q + i) = byteAt l i := by
  have hb : ∀ j, bitAt (a ++ l) (8 * (q + i) + j) = bitAt l (8 * i + j) := fun j => by
    have e : 8 * (q + i) + j = a.length + (8 * i + j) := by omega
    rw [e, bitAt_skip]
  have hb0 := hb 0
  unfold byteAt
  simp only [hb]
  simp only [Nat.add_zero] at hb0
  rw [hb0]
theorem pack_append_whole (a l : List Bool) (h : a.length % 8 = 0) : pack (a ++ l) = pack a ++ pack l := by
  have hq : a.length = 8 * (a.length / 8) := by omega
  apply List.ext_getElem
  · simp [pack_length]; omega
  · intro i h1 h2
    rw [pack_length, List.length_append] at h1
    by_cases hi : i < a.length / 8
    · rw [List.getElem_append_left (by rw [pack_length]; omega)]
      simp only [pack, List.getElem_map, List.getElem_range]
      have hb : ∀ j, j < 8 → bitAt (a ++ l) (8 * i + j) = bitAt a (8 * i + j) := fun j hj => by
        unfold bitAt
        rw [List.getD, List.getD, List.getElem?_append_left (by omega)]
      have h0 := hb 0 (by decide)
      simp only [Nat.add_zero] at h0
      unfold byteAt
      rw [h0, hb 1 (by decide), hb 2 (by decide), hb 3 (by decide), hb 4 (by decide), hb 5 (by decide), hb 6 (by decide), hb 7 (by decide)]
    · rw [List.getElem_append_right (by rw [pack_length]; omega)]
      simp only [pack, List.getElem_map, List.getElem_range, List.length_map, List.length_range]
      have e : i = a.length / 8 + (i - (a.length + 7) / 8) := by omega
      rw [show byteAt (a ++ l) i = byteAt (a ++ l) (a.length / 8 + (i - (a.length + 7) / 8)) from congrArg _ e]
      exact byteAt_skip a l _ _ hq
theorem pack_byte (x : Int) (h0 : 0 ≤ x) (h1 : x < 256) : pack (putB x 8) = [x] := by
  have := byteAt_byte x h0 h1 []
  rw [List.append_nil] at this
  simp [pack, putB_length, List.range_succ, this]
theorem pack_unpack (bs : List Int) (h : ∀ x ∈ bs, 0 ≤ x ∧ x < 256) : pack (unpack bs) = bs := by
  induction bs with
  | nil => rfl
  | cons x bs ih =>
    have hx := h x (by simp)
    rw [unpack_cons, pack_append_whole _ _ (by rw [putB_length]), pack_byte x hx.1 hx.2, ih fun y hy => h y (by simp [hy])]
    rfl
theorem byteAt_bit (l : List Bool) (i : Nat) (j : Nat) (hj : j < 8) : byteAt l i / 2 ^ (7 - j) % 2 = bitAt l (8 * i + j) := by
  unfold byteAt
  have h0 := bitAt_01 l (8 * i)
  have h1 := bitAt_01 l (8 * i + 1)
  have h2 := bitAt_01 l (8 * i + 2)
  have h3 := bitAt_01 l (8 * i + 3)
  have h4 := bitAt_01 l (8 * i + 4)
  have h5 := bitAt_01 l (8 * i + 5)
  have h6 := bitAt_01 l (8 * i + 6)
  have h7 := bitAt_01 l (8 * i + 7)
  have hc : j = 0 ∨ j = 1 ∨ j = 2 ∨ j = 3 ∨ j = 4 ∨ j = 5 ∨ j = 6 ∨ j = 7 := by omega
  rcases hc with rfl | rfl | rfl | rfl | rfl | rfl | rfl | rfl <;> simp <;> omega
theorem unpack_pack (l : List Bool) : unpack (pack l) = alignB l := by
  apply List.ext_getElem?
  intro i
  by_cases hi : i < 8 * (pack l).length
  · rw [unpack_get _ _ hi]
    rw [pack_length] at hi
    have h2 : (pack l).getD (i / 8) 0 = byteAt l (i / 8) := by
      have : i / 8 < (l.length + 7) / 8 := by omega
      simp [pack, List.getD, List.getElem?_range this]
    rw [h2, byteAt_bit l _ _ (Nat.mod_lt _ (by decide)), Nat.div_add_mod]
    have h3 : (alignB l)[i]? = some ((alignB l).getD i false) := by
      rw [List.getD, List.getElem?_eq_getElem (by rw [alignB_length]; exact hi)]
      rfl
    rw [h3]
    congr 1
    have h4 := bitAt_append_false l (padN l.length) i
    have h5 : (alignB l).getD i false = decide (bitAt (alignB l) i = 1) := by
      unfold bitAt
      cases (alignB l).getD i false <;> rfl
    rw [h5]
    show _ = decide (bitAt (l ++ _) i = 1)
    rw [h4]
  · rw [List.getElem?_eq_none (by rw [unpack_length]; omega), List.getElem?_eq_none (by rw [alignB_length]; rw [pack_length] at hi; omega)]

/-! ### A text of 0 and 1 -/
def chrB (b : Bool) : Int := if b then 49 else 48
def strOf (l : List Bool) : ByteArray := strOfNums (l.map chrB)
theorem strOf_size (l : List Bool) : (strOf l).size = l.length := by simp [strOf, strOfNums_size]

/-- What all bits are in octets: one octet 0 if there are none. -/
def bytesOf (l : List Bool) : List Int := if l = [] then [0] else pack l
theorem bytesOf_range (l : List Bool) : ∀ x ∈ bytesOf l, 0 ≤ x ∧ x < 256 := by
  intro x hx
  unfold bytesOf at hx
  split at hx
  · simp at hx; omega
  · exact pack_range l x hx

end Go.Proofs.Ytomjgjdnlbpleaa.Bits
