/- header, partNames of the reference of layer 10: walked. -/
import Derived.Test.YtbjddomocggjmaaGreatLAg
namespace Go.Proofs.YtbjddomocggjmaaGreat.Sc
open Go.RowKit Go.ChangeShapes Go.WideShapes Go.Proofs.YtbjddomocggjmaaGreat.Sep
open Go.Proofs.YtbjddomocggjmaaGreatW.PrintWords
variable {B : Nat} {w0 w : World} {R : HP}
theorem yields_loadR {P : Program} {ops : Array Oper} {S : World → Prop} {o : Oper} {a : Act} (hw : Region.wanted o (yielded ops a.tmps) = true) (ty : TypeId) (x : Operand) (ho : o.op = .load ty x)
  (ad : Addr) (hx : a.eval x = .pointer (some ad)) (cs : List Value) (hc : ∀ w,S w → ∀ j v,cs[j]? = some v → w.cell? (ad.add j) = some v) (d : TypeDesc)
  (hu : P.underlying ty = some d) (hd : (match d with | .struct _ | .array _ _ => true | _ => false) = true) (hi : (P.info? ty).map (·.size) = some cs.length) : YieldsIf P ops S o (.agg cs.toArray) a :=
 .inl ⟨hw,fun w hS => by
  unfold execOp
  simp only [ho,hx,Instr.loadAt,Instr.sureAddr,Sem.run_bind,Sem.run_pure,Result.andThen_ok,run_loadVar_cells w ad ty cs d (hc w hS) hu hd hi]⟩
theorem rtwice_at {B : Nat} (A : Option Addr) (c : Nat) (l : List ByteArray) (h : St B w0 w R) (hC : Kd.string.C w A l.length l) :
  Calls Tryz.prog 19 #[.slice A l.length c] w fun e w' => e = .returned (.bool (!onceB l)) ∧ St B w0 w' R :=
 (rtwice_calls (w0 := w) (R := emp) A c l (St.start w) hC).mono fun _ _ ⟨h1,h2⟩ => ⟨h1,(nest h h2).drop⟩
theorem strV_snoc (L : List ByteArray) (s : ByteArray) : strV L ++ [.string s] = strV (L ++ [s]) := by simp [strV]
theorem strV_app (L K : List ByteArray) : strV L ++ strV K = strV (L ++ K) := by simp [strV]
def dfN (m : Md) : List ByteArray := m.df.map fun d => d.n
def imN (l : List Im) : List ByteArray := (l.map fun x => x.f0).flatten
def ownsR (l : List Md) (fr s : ByteArray) : Bool := (l.find? (mdNm fr)).any fun m => ownR m s
def headB (l : List Md) (m : Md) : Bool := (m.im.all fun x => x.f0.all (ownsR l x.f1)) && onceB (dfN m ++ imN m.im)
theorem imN_next {l : List Im} {x : Int} {r : Im} (h0 : 0 ≤ x) (h : l[x.toNat]? = some r) : imN (l.take (x + 1).toNat) = imN (l.take x.toNat) ++ r.f0 := by
 rw [take_nextR h0 h]
 unfold imN
 rw [List.map_append,List.flatten_append]
 simp
theorem find_place {l : List Md} {fr : ByteArray} {i : Int} (h : Place (mdNm fr) l i) : (i < 0 ∧ l.find? (mdNm fr) = none) ∨ ∃ u,0 ≤ i ∧ i < l.length ∧ l[i.toNat]? = some u ∧ l.find? (mdNm fr) = some u := by
 rcases h with ⟨k,x,rfl,hk,hp,hb⟩ | ⟨rfl,hb⟩
 ·have hlt := (List.getElem?_eq_some_iff.1 hk).1
  refine .inr ⟨x,by omega,by omega,by rw [Int.toNat_natCast,hk], ?_⟩
  rw [List.find?_eq_some_iff_append]
  refine ⟨hp,l.take k,l.drop (k + 1), ?_,fun a ha => by rw [hb a ha]; rfl⟩
  have := List.drop_eq_getElem_cons hlt
  rw [(List.getElem?_eq_some_iff.1 hk).2] at this
  rw [← this,List.take_append_drop]
 ·refine .inl ⟨by omega, ?_⟩
  rw [List.find?_eq_none]
  intro x hx
  rw [hb x hx]
  simp
set_option maxHeartbeats 16000000 in
set_option maxRecDepth 100000 in
theorem rheader_calls (A : Option Addr) (c : Nat) (l : List Md) (m : Md) (cs : List Value) (h : S w0 w R) (hC : kMd.C w0 A l.length l) (hK : kMd.K w0 m cs) (b1 : m.df.length ≤ 256) (b2 : m.im.length ≤ 256) (b3 : ∀ x ∈ m.im,x.f0.length ≤ 256) :
  Calls Tryz.prog 20 #[.slice A l.length c,.agg cs.toArray] w fun e w' => e = .returned (.bool (headB l m)) ∧ S w0 w' R := by
 have hl : l.length ≤ 9223372036854775807 := hC.2.1
 obtain ⟨A2,c2,A3,c3,rfl,l2,g2,l3,g3⟩ := kMd_open hK
 have HC := Lib.hid (And.intro hC (And.intro g2 (And.intro g3 (And.intro b1 (And.intro b2 b3)))))
 have hl2 : m.im.length ≤ 9223372036854775807 := by omega
 have hl3 : m.df.length ≤ 9223372036854775807 := by omega
 generalize hg : w.heap.size = g
 have H : Hid (S w0 _ (RowV 9 1 (.slice none 0 0) ([] : List ByteArray).length (strV []) • (Blk g (.cells #[.string m.n,.bool m.au,.slice A2 m.im.length c2,.slice A3 m.df.length c3] 44) • R))) := Lib.hid ((alloc_at (n := g) h (.cells #[.string m.n,.bool m.au,.slice A2 m.im.length c2,.slice A3 m.df.length c3] 44) hg.symm).nil _ _)
 clear h hC hK l2 g2 l3 g3 b1 b2 b3
 go_enter Tryz.func20,Tryz.ntmps20
 go_wp2
 go_loopw [5,6] (fun vo v wr => ∃ (va : Value) (x : Int) (L : List ByteArray),va = vo ∧ 0 ≤ x ∧ x ≤ m.df.length ∧ v = .int .i64 x ∧ Hid (S w0 wr (RowV 9 1 va L.length (strV L) • (Blk g (.cells #[.string m.n,.bool m.au,.slice A2 m.im.length c2,.slice A3 m.df.length c3] 44) • R))) ∧ Hid (L = (m.df.take x.toNat).map fun d => d.n)) (fun _ v _ => m.df.length - (intOf v).toNat)
 case atStart => exact ⟨_,0,[],rfl,Int.le_refl _,by omega,rfl,H,Lib.hid (by simp)⟩
 case round =>
  clear H
  obtain ⟨va,x,L,rfl,hx0,hx1,rfl,HR,HL⟩ := hrel
  have b3 := HR.out.two.cell 3 rfl
  by_cases hlt : x < m.df.length
  ·obtain ⟨ad,cs,eA,hcl0,hK,hcell0⟩ := Kd.C_get HC.out.2.2.1 zDf x hx0 hlt
   cases eA
   have hcell : ∀ (j : Nat) (u : Value),cs[j]? = some u → w0.cell? (ad.add (x.toNat * 16 + j)) = some u := hcell0
   have HG := Lib.hid (getD_mem m.df zDf x hx0 hlt)
   generalize m.df.getD x.toNat zDf = r at *
   obtain ⟨ts,rfl, -⟩ := kDf_open (show kDf.K w0 r cs from hK)
   have d0 : wr.cell? (ad.add (x.toNat * 16)) = some (.string r.n) := pw_cell_below HR.out.below (hcell 0 _ rfl)
   have p126 := eq_true hx0
   have q126 : (x < (m.df.length : Int)) = True := eq_true hlt
   have hLn : L.length = x.toNat := by rw [HL.out,List.length_map,List.length_take]; omega
   have HLn := Lib.hid hLn
   have hLb : Hid (L.length + 1 ≤ 256) := Lib.hid (by have := HC.out.2.2.2.1; omega)
   clear hcell hcell0 hcl0 hK hLn
   go_wp2_with (at_builtin; refine Held.out ?_)
   refine ⟨?_⟩
   refine wpList_append_blk (by rfl) _ _ Tryz.underlying34 info_strs rfl (by decide) rfl va L.length (strV L) rfl (cs := [.string r.n]) (HR.out.alloc _) rfl rfl (by simp [Value.oneCell']) (by have := hLb.out; simp only [maxLen]; omega) (by have := hLb.out; omega) ?_
   intro v5 w5 h5
   have H5 : Hid (S w0 w5 (RowV 9 1 v5 (L ++ [r.n]).length (strV (L ++ [r.n])) • (Blk g (.cells #[.string m.n,.bool m.au,.slice A2 m.im.length c2,.slice (some ad) m.df.length c3] 44) • R))) := Lib.hid (by
    have := h5.two.drop
    rw [strV_snoc] at this
    rwa [List.length_append,List.length_singleton])
   have HL2 : Hid (L ++ [r.n] = (m.df.take (x + 1).toNat).map fun d => d.n) := Lib.hid (by rw [take_nextR hx0 HG.out,List.map_append, ← HL.out]; rfl)
   clear h5 b3 d0
   go_wp2
   exact ⟨⟨_,x + 1,_,rfl,by omega,by omega,by go_num,H5,HL2⟩,by simp only [intOf]; omega⟩
  ·have hlt' : (x < (m.df.length : Int)) = False := eq_false hlt
   have HLs : Hid (L = dfN m ++ imN (m.im.take (0 : Int).toNat) ∧ L.length ≤ 256 + 256 * (0 : Int).toNat ∧ ∀ y ∈ m.im.take (0 : Int).toNat,y.f0.all (ownsR l y.f1) = true) := Lib.hid (by
    have h := HL.out
    rw [List.take_of_length_le (by omega)] at h
    have e : L = dfN m := h
    refine ⟨by rw [e]; simp [imN],by rw [e,dfN,List.length_map]; have := HC.out.2.2.2.1; omega,by simp⟩)
   clear HL
   go_wp2
   clear b3
   go_loopw [5,7] (fun vo v wr => ∃ (va : Value) (x : Int) (L : List ByteArray),va = vo ∧ 0 ≤ x ∧ x ≤ m.im.length ∧ v = .int .i64 x ∧ Hid (S w0 wr (RowV 9 1 va L.length (strV L) • (Blk g (.cells #[.string m.n,.bool m.au,.slice A2 m.im.length c2,.slice A3 m.df.length c3] 44) • R))) ∧ Hid (L = dfN m ++ imN (m.im.take x.toNat) ∧ L.length ≤ 256 + 256 * x.toNat ∧ ∀ y ∈ m.im.take x.toNat,y.f0.all (ownsR l y.f1) = true)) (fun _ v _ => m.im.length - (intOf v).toNat)
   case atStart => exact ⟨_,0,_,rfl,Int.le_refl _,by omega,rfl,HR,HLs⟩
   case round =>
    clear HR HLs
    obtain ⟨va,x,L,rfl,hx0,hx1,rfl,HR,HL⟩ := hrel
    have b2 := HR.out.two.cell 2 rfl
    by_cases hlt : x < m.im.length
    ·obtain ⟨ad,cs,eA,hcl0,hK,hcell0⟩ := Kd.C_get HC.out.2.1 zIm x hx0 hlt
     cases eA
     have hcell : ∀ (j : Nat) (u : Value),cs[j]? = some u → w0.cell? (ad.add (x.toNat * 2 + j)) = some u := hcell0
     have HG := Lib.hid (getD_mem m.im zIm x hx0 hlt)
     generalize m.im.getD x.toNat zIm = r at *
     obtain ⟨A0,c0,rfl,l0,g0⟩ := PScopeResolves.k50_open (show kIm.K w0 r cs from hK)
     have HF : Hid (∀ W,Below w0.heap.size w0 W → W.cell? (ad.add (x.toNat * 2)) = some (.slice A0 r.f0.length c0) ∧ W.cell? ⟨(ad.add (x.toNat * 2)).block,(ad.add (x.toNat * 2)).off + 1,none⟩ = some (.string r.f1)) := Lib.hid fun W hW => by
      refine ⟨pw_cell_below hW (hcell 0 _ rfl), ?_⟩
      rw [← add_field ad _ 1 (by decide)]
      exact pw_cell_below hW (hcell 1 _ rfl)
     have HG0 := Lib.hid g0
     have hl0 : r.f0.length ≤ 9223372036854775807 := g0.2.1
     have HB0 : Hid (r.f0.length ≤ 256) := Lib.hid (HC.out.2.2.2.2.2 r (List.mem_of_getElem? HG.out))
     have p126 := eq_true hx0
     have q126 : (x < (m.im.length : Int)) = True := eq_true hlt
     obtain ⟨e0,e1⟩ := HF.out _ HR.out.below
     clear hcell hcell0 hcl0 hK l0 g0
     go_wp2_with fail
     refine (rmodule_calls A c l r.f1 HR.out HC.out.1).mono ?_
     rintro e w3 ⟨k,rfl,h3,hp⟩
     have HP := Lib.hid (find_place hp)
     have H3 := Lib.hid h3
     clear h3 hp HR b2 e0 e1
     go_wp2
     go_loopw [9] (fun v wr => ∃ y : Int,0 ≤ y ∧ y ≤ r.f0.length ∧ v = .int .i64 y ∧ Hid (S w0 wr (RowV 9 1 va L.length (strV L) • (Blk g (.cells #[.string m.n,.bool m.au,.slice (some ad) m.im.length c2,.slice A3 m.df.length c3] 44) • R))) ∧ Hid (∀ s ∈ r.f0.take y.toNat,ownsR l r.f1 s = true)) (fun v _ => r.f0.length - (intOf v).toNat)
     case atStart => exact ⟨0,Int.le_refl _,by omega,rfl,H3,Lib.hid (by simp)⟩
     case round =>
      clear H3
      obtain ⟨y,hy0,hy1,rfl,HU,HY⟩ := hrel
      have b2 := HU.out.two.cell 2 rfl
      obtain ⟨e0, -⟩ := HF.out _ HU.out.below
      by_cases hly : y < r.f0.length
      ·obtain ⟨an,cs',eA',hcl0',hK',hcell0'⟩ := Kd.C_get HG0.out (⟨#[]⟩ : ByteArray) y hy0 hly
       cases eA'
       have HGk := Lib.hid (getD_mem r.f0 (⟨#[]⟩ : ByteArray) y hy0 hly)
       obtain rfl : cs' = [.string (r.f0.getD y.toNat (⟨#[]⟩ : ByteArray))] := hK'
       generalize r.f0.getD y.toNat (⟨#[]⟩ : ByteArray) = q at *
       have hcell' : ∀ (j : Nat) (u : Value),([.string q] : List Value)[j]? = some u → w0.cell? (an.add (y.toNat * 1 + j)) = some u := hcell0'
       have HQ : Hid (∀ W,Below w0.heap.size w0 W → W.cell? (an.add y.toNat) = some (.string q)) := Lib.hid fun W hW => by have h := pw_cell_below hW (hcell' 0 _ rfl); rwa [Nat.mul_one,Nat.add_zero] at h
       have p127 := eq_true hy0
       have q127 : (y < (r.f0.length : Int)) = True := eq_true hly
       clear hcell' hcell0' hcl0'
       rcases HP.out with ⟨hk,hn⟩ | ⟨u,hk0,hk1,hku,hfu⟩
       ·have t1 : (k < 0) = True := eq_true hk
        have HZ : Hid (headB l m = false) := Lib.hid (by
         unfold headB
         rw [Bool.and_eq_false_iff]
         refine .inl (List.all_eq_false.2 ⟨r,List.mem_of_getElem? HG.out, ?_⟩)
         rw [Bool.not_eq_true,List.all_eq_false]
         exact ⟨q,List.mem_of_getElem? HGk.out,by unfold ownsR; rw [hn]; simp⟩)
        clear hk hn
        go_wp2
        go_quiet (fail)
        go_wp2
        go_ret
        exact ⟨by rw [HZ.out]; rfl,(HU.out.drewN _).drop.drop⟩
       ·obtain ⟨adk,cu,eK,hclu,hKu,hcellu⟩ := Kd.C_get HC.out.1 zMd k hk0 hk1
        cases eK
        have hgu := getD_mem l zMd k hk0 hk1
        generalize l.getD k.toNat zMd = u2 at *
        rw [hku] at hgu
        obtain rfl : u = u2 := Option.some.inj hgu
        obtain ⟨B2,e2,B3,e3,rfl, -⟩ := kMd_open (show kMd.K w0 u cu from hKu)
        have HKu := Lib.hid (show kMd.K w0 u [.string u.n,.bool u.au,.slice B2 u.im.length e2,.slice B3 u.df.length e3] from hKu)
        have HCu := Lib.hid hcellu
        have HF3 : Hid (∀ W,S w0 W (RowV 9 1 va L.length (strV L) • (Blk g (.cells #[.string m.n,.bool m.au,.slice (some ad) m.im.length c2,.slice A3 m.df.length c3] 44) • R)) → W.cell? ⟨g,2,none⟩ = some (.slice (some ad) m.im.length c2) ∧ W.cell? (ad.add (x.toNat * 2)) = some (.slice (some an) r.f0.length c0) ∧ W.cell? (an.add y.toNat) = some (.string q) ∧ Hid (∀ (j : Nat) (v : Value),([.string u.n,.bool u.au,.slice B2 u.im.length e2,.slice B3 u.df.length e3] : List Value)[j]? = some v → W.cell? ((adk.add (k.toNat * 4)).add j) = some v)) := Lib.hid fun W hW => ⟨hW.two.cell 2 rfl,(HF.out _ hW.below).1,HQ.out _ hW.below,Lib.hid (elem_cells hW.below HCu.out)⟩
        have t1 : (k < 0) = False := eq_false (by omega)
        have t2 : (0 ≤ k) = True := eq_true hk0
        have t3 : (k < (l.length : Int)) = True := eq_true hk1
        have HO : Hid (ownsR l r.f1 q = ownR u q) := Lib.hid (by unfold ownsR; rw [hfu]; rfl)
        clear hku hfu hclu hKu hcellu hgu
        cases hq : ownR u q with
        | false =>
         rw [hq] at HO
         have HZ : Hid (headB l m = false) := Lib.hid (by
          unfold headB
          rw [Bool.and_eq_false_iff]
          refine .inl (List.all_eq_false.2 ⟨r,List.mem_of_getElem? HG.out, ?_⟩)
          rw [Bool.not_eq_true,List.all_eq_false]
          exact ⟨q,List.mem_of_getElem? HGk.out,by rw [HO.out]; simp⟩)
         go_wp2
         clear b2 e0
         refine wp_region_held_drew (S := fun W => W.cell? ⟨g,2,none⟩ = some (.slice (some ad) m.im.length c2) ∧ W.cell? (ad.add (x.toNat * 2)) = some (.slice (some an) r.f0.length c0) ∧ W.cell? (an.add y.toNat) = some (.string q) ∧ Hid (∀ (j : Nat) (v : Value),([.string u.n,.bool u.au,.slice B2 u.im.length e2,.slice B3 u.df.length e3] : List Value)[j]? = some v → W.cell? ((adk.add (k.toNat * 4)).add j) = some v)) (by kernel_rfl) ?_ (fun hHeld => ?_)
         ·exact HF3.out _ HU.out.drew
         refine wpAnyH_take (i := 0) (oi := ⟨some 52,.move (.tmp 8),3,"ref.go:117",#[],none⟩) (v := ?_) rfl (by kernel_rfl) (by kernel_rfl) (by kernel_rfl) (fun _ _ _ h => h) (Or.inl ⟨by rfl, ?_⟩) (by assumption) ?_
         rotate_left 1
         ·intro w hSw
          try dsimp only at hSw
          go_simp
          all_goals with_reducible rfl
         try simp only [Act.put,List.setIfInBounds_toArray,List.set_cons_succ,List.set_cons_zero]
         refine wpAnyH_take (i := 1) (oi := ⟨some 53,.binOp .lss 3 (.tmp 52) (.const (.int .i64 0)) 3,4,"ref.go:117",#[⟨0,.data⟩],none⟩) (v := ?_) rfl (by kernel_rfl) (by kernel_rfl) (by kernel_rfl) (fun _ _ _ h => h) (Or.inl ⟨by rfl, ?_⟩) (by assumption) ?_
         rotate_left 1
         ·intro w hSw
          try dsimp only at hSw
          go_simp
          all_goals with_reducible rfl
         try simp only [Act.put,List.setIfInBounds_toArray,List.set_cons_succ,List.set_cons_zero]
         refine wpAnyH_take (i := 2) (oi := ⟨some 54,.move (.tmp 53),4,"ref.go:117",#[⟨1,.data⟩],none⟩) (v := ?_) rfl (by kernel_rfl) (by kernel_rfl) (by kernel_rfl) (fun _ _ _ h => h) (Or.inl ⟨by rfl, ?_⟩) (by assumption) ?_
         rotate_left 1
         ·intro w hSw
          try dsimp only at hSw
          go_simp
          all_goals with_reducible rfl
         try simp only [Act.put,List.setIfInBounds_toArray,List.set_cons_succ,List.set_cons_zero]
         refine wpAnyH_take (i := 3) (oi := ⟨some 55,.move (.tmp 0),22,"ref.go:117",#[⟨2,.guard⟩],some (2,false)⟩) (v := ?_) rfl (by kernel_rfl) (by kernel_rfl) (by kernel_rfl) (fun _ _ _ h => h) (Or.inl ⟨by rfl, ?_⟩) (by assumption) ?_
         rotate_left 1
         ·intro w hSw
          try dsimp only at hSw
          go_simp
          all_goals with_reducible rfl
         try simp only [Act.put,List.setIfInBounds_toArray,List.set_cons_succ,List.set_cons_zero]
         refine wpAnyH_take (i := 4) (oi := ⟨some 56,.move (.tmp 8),3,"ref.go:117",#[⟨2,.guard⟩],some (2,false)⟩) (v := ?_) rfl (by kernel_rfl) (by kernel_rfl) (by kernel_rfl) (fun _ _ _ h => h) (Or.inl ⟨by rfl, ?_⟩) (by assumption) ?_
         rotate_left 1
         ·intro w hSw
          try dsimp only at hSw
          go_simp
          all_goals with_reducible rfl
         try simp only [Act.put,List.setIfInBounds_toArray,List.set_cons_succ,List.set_cons_zero]
         refine wpAnyH_take (i := 5) (oi := ⟨some 57,.indexAddr 22 (.tmp 55) (.tmp 56),0,"ref.go:117",#[⟨3,.data⟩,⟨4,.data⟩,⟨2,.guard⟩],some (2,false)⟩) (v := ?_) rfl (by kernel_rfl) (by kernel_rfl) (by kernel_rfl) (fun _ _ _ h => h) (Or.inl ⟨by rfl, ?_⟩) (by assumption) ?_
         rotate_left 1
         ·intro w hSw
          try dsimp only at hSw
          go_simp
          all_goals with_reducible rfl
         try simp only [Act.put,List.setIfInBounds_toArray,List.set_cons_succ,List.set_cons_zero]
         refine wpAnyH_take (i := 6) (oi := ⟨some 58,.load 44 (.tmp 57),44,"ref.go:117",#[⟨5,.data⟩,⟨2,.guard⟩],some (2,false)⟩) (v := .agg ([.string u.n,.bool u.au,.slice B2 u.im.length e2,.slice B3 u.df.length e3] : List Value).toArray) rfl (by kernel_rfl) (by kernel_rfl) (by kernel_rfl) (fun _ _ _ h => h) (yields_loadR (by rfl) 44 _ rfl (adk.add (k.toNat * 4)) rfl [.string u.n,.bool u.au,.slice B2 u.im.length e2,.slice B3 u.df.length e3] (fun w hS => hS.2.2.2.out) _ Tryz.underlying44 rfl (by kernel_rfl)) (by assumption) ?_
         try simp only [Act.put,List.setIfInBounds_toArray,List.set_cons_succ,List.set_cons_zero]
         refine wpAnyH_take (i := 7) (oi := ⟨some 59,.fieldAddr 44 (.tmp 3) 2,0,"ref.go:117",#[⟨2,.guard⟩],some (2,false)⟩) (v := ?_) rfl (by kernel_rfl) (by kernel_rfl) (by kernel_rfl) (fun _ _ _ h => h) (Or.inl ⟨by rfl, ?_⟩) (by assumption) ?_
         rotate_left 1
         ·intro w hSw
          try dsimp only at hSw
          go_simp
          all_goals with_reducible rfl
         try simp only [Act.put,List.setIfInBounds_toArray,List.set_cons_succ,List.set_cons_zero]
         refine wpAnyH_take (i := 8) (oi := ⟨some 60,.load 42 (.tmp 59),42,"ref.go:117",#[⟨7,.data⟩,⟨2,.guard⟩],some (2,false)⟩) (v := ?_) rfl (by kernel_rfl) (by kernel_rfl) (by kernel_rfl) (fun _ _ _ h => h) (Or.inl ⟨by rfl, ?_⟩) (by assumption) ?_
         rotate_left 1
         ·intro w hSw
          try dsimp only at hSw
          go_simp
          all_goals with_reducible rfl
         try simp only [Act.put,List.setIfInBounds_toArray,List.set_cons_succ,List.set_cons_zero]
         refine wpAnyH_take (i := 9) (oi := ⟨some 61,.move (.tmp 7),3,"ref.go:117",#[⟨2,.guard⟩],some (2,false)⟩) (v := ?_) rfl (by kernel_rfl) (by kernel_rfl) (by kernel_rfl) (fun _ _ _ h => h) (Or.inl ⟨by rfl, ?_⟩) (by assumption) ?_
         rotate_left 1
         ·intro w hSw
          try dsimp only at hSw
          go_simp
          all_goals with_reducible rfl
         try simp only [Act.put,List.setIfInBounds_toArray,List.set_cons_succ,List.set_cons_zero]
         refine wpAnyH_take (i := 10) (oi := ⟨some 62,.indexAddr 42 (.tmp 60) (.tmp 61),0,"ref.go:117",#[⟨8,.data⟩,⟨9,.data⟩,⟨2,.guard⟩],some (2,false)⟩) (v := ?_) rfl (by kernel_rfl) (by kernel_rfl) (by kernel_rfl) (fun _ _ _ h => h) (Or.inl ⟨by rfl, ?_⟩) (by assumption) ?_
         rotate_left 1
         ·intro w hSw
          try dsimp only at hSw
          go_simp
          all_goals with_reducible rfl
         try simp only [Act.put,List.setIfInBounds_toArray,List.set_cons_succ,List.set_cons_zero]
         refine wpAnyH_take (i := 11) (oi := ⟨some 63,.fieldAddr 50 (.tmp 62) 0,0,"ref.go:117",#[⟨10,.data⟩,⟨2,.guard⟩],some (2,false)⟩) (v := ?_) rfl (by kernel_rfl) (by kernel_rfl) (by kernel_rfl) (fun _ _ _ h => h) (Or.inl ⟨by rfl, ?_⟩) (by assumption) ?_
         rotate_left 1
         ·intro w hSw
          try dsimp only at hSw
          go_simp
          all_goals with_reducible rfl
         try simp only [Act.put,List.setIfInBounds_toArray,List.set_cons_succ,List.set_cons_zero]
         refine wpAnyH_take (i := 12) (oi := ⟨some 64,.load 34 (.tmp 63),34,"ref.go:117",#[⟨11,.data⟩,⟨2,.guard⟩],some (2,false)⟩) (v := ?_) rfl (by kernel_rfl) (by kernel_rfl) (by kernel_rfl) (fun _ _ _ h => h) (Or.inl ⟨by rfl, ?_⟩) (by assumption) ?_
         rotate_left 1
         ·intro w hSw
          try dsimp only at hSw
          go_simp
          all_goals with_reducible rfl
         try simp only [Act.put,List.setIfInBounds_toArray,List.set_cons_succ,List.set_cons_zero]
         refine wpAnyH_take (i := 13) (oi := ⟨some 65,.move (.tmp 9),3,"ref.go:117",#[⟨2,.guard⟩],some (2,false)⟩) (v := ?_) rfl (by kernel_rfl) (by kernel_rfl) (by kernel_rfl) (fun _ _ _ h => h) (Or.inl ⟨by rfl, ?_⟩) (by assumption) ?_
         rotate_left 1
         ·intro w hSw
          try dsimp only at hSw
          go_simp
          all_goals with_reducible rfl
         try simp only [Act.put,List.setIfInBounds_toArray,List.set_cons_succ,List.set_cons_zero]
         refine wpAnyH_take (i := 14) (oi := ⟨some 66,.indexAddr 34 (.tmp 64) (.tmp 65),0,"ref.go:117",#[⟨12,.data⟩,⟨13,.data⟩,⟨2,.guard⟩],some (2,false)⟩) (v := ?_) rfl (by kernel_rfl) (by kernel_rfl) (by kernel_rfl) (fun _ _ _ h => h) (Or.inl ⟨by rfl, ?_⟩) (by assumption) ?_
         rotate_left 1
         ·intro w hSw
          try dsimp only at hSw
          go_simp
          all_goals with_reducible rfl
         try simp only [Act.put,List.setIfInBounds_toArray,List.set_cons_succ,List.set_cons_zero]
         refine wpAnyH_take (i := 15) (oi := ⟨some 67,.load 9 (.tmp 66),9,"ref.go:117",#[⟨14,.data⟩,⟨2,.guard⟩],some (2,false)⟩) (v := ?_) rfl (by kernel_rfl) (by kernel_rfl) (by kernel_rfl) (fun _ _ _ h => h) (Or.inl ⟨by rfl, ?_⟩) (by assumption) ?_
         rotate_left 1
         ·intro w hSw
          try dsimp only at hSw
          go_simp
          all_goals with_reducible rfl
         try simp only [Act.put,List.setIfInBounds_toArray,List.set_cons_succ,List.set_cons_zero]
         refine wpAnyH_ready (rs := [16]) (by kernel_rfl) (by simp) ?_
         refine AllReadyH.cons (o := ⟨some 68,.call { callee := .value (.func 44),args := #[.tmp 58,.tmp 67],argTypes := #[44,9] },4,"ref.go:117",#[⟨6,.data⟩,⟨15,.data⟩,⟨2,.chain⟩,⟨2,.guard⟩],some (2,false)⟩) rfl (fun K hK => ?_) AllReadyH.nil
         go_simp
         refine (rown_calls u _ q HU.out.drew HKu.out).mono ?_
         rintro e w4 ⟨rfl,h4⟩
         refine hK.out _ _ ?_ (fun hHeld => ?_)
         ·exact HF3.out _ h4
         clear hK K
         try simp only [Act.put,List.setIfInBounds_toArray,List.set_cons_succ,List.set_cons_zero]
         refine wpAnyH_take (i := 17) (oi := ⟨some 69,.unOp .not 4 (.tmp 68),4,"ref.go:117",#[⟨16,.data⟩,⟨2,.guard⟩],some (2,false)⟩) (v := ?_) rfl (by kernel_rfl) (by kernel_rfl) (by kernel_rfl) (fun _ _ _ h => h) (Or.inl ⟨by rfl, ?_⟩) (by assumption) ?_
         rotate_left 1
         ·intro w hSw
          try dsimp only at hSw
          go_simp
          all_goals with_reducible rfl
         try simp only [Act.put,List.setIfInBounds_toArray,List.set_cons_succ,List.set_cons_zero]
         refine wpAnyH_take (i := 18) (oi := ⟨some 70,.pick (.tmp 54) (.const (.bool true)) (.tmp 69),4,"ref.go:117",#[⟨2,.data⟩,⟨17,.data⟩],none⟩) (v := ?_) rfl (by kernel_rfl) (by kernel_rfl) (by kernel_rfl) (fun _ _ _ h => h) (Or.inl ⟨by rfl, ?_⟩) (by assumption) ?_
         rotate_left 1
         ·intro w hSw
          try dsimp only at hSw
          go_simp
          all_goals with_reducible rfl
         try simp only [Act.put,List.setIfInBounds_toArray,List.set_cons_succ,List.set_cons_zero]
         refine wpAnyH_done (by kernel_rfl) ?_ _
         rw [hq]
         have HD := Lib.hid h4
         clear h4 hHeld HU
         go_wp2
         go_ret
         exact ⟨by rw [HZ.out]; rfl,HD.out.drop.drop⟩
        | true =>
         rw [hq] at HO
         have HY2 : Hid (∀ s ∈ r.f0.take (y + 1).toNat,ownsR l r.f1 s = true) := Lib.hid (by
          rw [take_nextR hy0 HGk.out]
          intro s hs
          rcases List.mem_append.1 hs with hs | hs
          ·exact HY.out s hs
          ·rw [List.mem_singleton.1 hs]; exact HO.out)
         go_wp2
         clear b2 e0
         refine wp_region_held_drew (S := fun W => W.cell? ⟨g,2,none⟩ = some (.slice (some ad) m.im.length c2) ∧ W.cell? (ad.add (x.toNat * 2)) = some (.slice (some an) r.f0.length c0) ∧ W.cell? (an.add y.toNat) = some (.string q) ∧ Hid (∀ (j : Nat) (v : Value),([.string u.n,.bool u.au,.slice B2 u.im.length e2,.slice B3 u.df.length e3] : List Value)[j]? = some v → W.cell? ((adk.add (k.toNat * 4)).add j) = some v)) (by kernel_rfl) ?_ (fun hHeld => ?_)
         ·exact HF3.out _ HU.out.drew
         refine wpAnyH_take (i := 0) (oi := ⟨some 52,.move (.tmp 8),3,"ref.go:117",#[],none⟩) (v := ?_) rfl (by kernel_rfl) (by kernel_rfl) (by kernel_rfl) (fun _ _ _ h => h) (Or.inl ⟨by rfl, ?_⟩) (by assumption) ?_
         rotate_left 1
         ·intro w hSw
          try dsimp only at hSw
          go_simp
          all_goals with_reducible rfl
         try simp only [Act.put,List.setIfInBounds_toArray,List.set_cons_succ,List.set_cons_zero]
         refine wpAnyH_take (i := 1) (oi := ⟨some 53,.binOp .lss 3 (.tmp 52) (.const (.int .i64 0)) 3,4,"ref.go:117",#[⟨0,.data⟩],none⟩) (v := ?_) rfl (by kernel_rfl) (by kernel_rfl) (by kernel_rfl) (fun _ _ _ h => h) (Or.inl ⟨by rfl, ?_⟩) (by assumption) ?_
         rotate_left 1
         ·intro w hSw
          try dsimp only at hSw
          go_simp
          all_goals with_reducible rfl
         try simp only [Act.put,List.setIfInBounds_toArray,List.set_cons_succ,List.set_cons_zero]
         refine wpAnyH_take (i := 2) (oi := ⟨some 54,.move (.tmp 53),4,"ref.go:117",#[⟨1,.data⟩],none⟩) (v := ?_) rfl (by kernel_rfl) (by kernel_rfl) (by kernel_rfl) (fun _ _ _ h => h) (Or.inl ⟨by rfl, ?_⟩) (by assumption) ?_
         rotate_left 1
         ·intro w hSw
          try dsimp only at hSw
          go_simp
          all_goals with_reducible rfl
         try simp only [Act.put,List.setIfInBounds_toArray,List.set_cons_succ,List.set_cons_zero]
         refine wpAnyH_take (i := 3) (oi := ⟨some 55,.move (.tmp 0),22,"ref.go:117",#[⟨2,.guard⟩],some (2,false)⟩) (v := ?_) rfl (by kernel_rfl) (by kernel_rfl) (by kernel_rfl) (fun _ _ _ h => h) (Or.inl ⟨by rfl, ?_⟩) (by assumption) ?_
         rotate_left 1
         ·intro w hSw
          try dsimp only at hSw
          go_simp
          all_goals with_reducible rfl
         try simp only [Act.put,List.setIfInBounds_toArray,List.set_cons_succ,List.set_cons_zero]
         refine wpAnyH_take (i := 4) (oi := ⟨some 56,.move (.tmp 8),3,"ref.go:117",#[⟨2,.guard⟩],some (2,false)⟩) (v := ?_) rfl (by kernel_rfl) (by kernel_rfl) (by kernel_rfl) (fun _ _ _ h => h) (Or.inl ⟨by rfl, ?_⟩) (by assumption) ?_
         rotate_left 1
         ·intro w hSw
          try dsimp only at hSw
          go_simp
          all_goals with_reducible rfl
         try simp only [Act.put,List.setIfInBounds_toArray,List.set_cons_succ,List.set_cons_zero]
         refine wpAnyH_take (i := 5) (oi := ⟨some 57,.indexAddr 22 (.tmp 55) (.tmp 56),0,"ref.go:117",#[⟨3,.data⟩,⟨4,.data⟩,⟨2,.guard⟩],some (2,false)⟩) (v := ?_) rfl (by kernel_rfl) (by kernel_rfl) (by kernel_rfl) (fun _ _ _ h => h) (Or.inl ⟨by rfl, ?_⟩) (by assumption) ?_
         rotate_left 1
         ·intro w hSw
          try dsimp only at hSw
          go_simp
          all_goals with_reducible rfl
         try simp only [Act.put,List.setIfInBounds_toArray,List.set_cons_succ,List.set_cons_zero]
         refine wpAnyH_take (i := 6) (oi := ⟨some 58,.load 44 (.tmp 57),44,"ref.go:117",#[⟨5,.data⟩,⟨2,.guard⟩],some (2,false)⟩) (v := .agg ([.string u.n,.bool u.au,.slice B2 u.im.length e2,.slice B3 u.df.length e3] : List Value).toArray) rfl (by kernel_rfl) (by kernel_rfl) (by kernel_rfl) (fun _ _ _ h => h) (yields_loadR (by rfl) 44 _ rfl (adk.add (k.toNat * 4)) rfl [.string u.n,.bool u.au,.slice B2 u.im.length e2,.slice B3 u.df.length e3] (fun w hS => hS.2.2.2.out) _ Tryz.underlying44 rfl (by kernel_rfl)) (by assumption) ?_
         try simp only [Act.put,List.setIfInBounds_toArray,List.set_cons_succ,List.set_cons_zero]
         refine wpAnyH_take (i := 7) (oi := ⟨some 59,.fieldAddr 44 (.tmp 3) 2,0,"ref.go:117",#[⟨2,.guard⟩],some (2,false)⟩) (v := ?_) rfl (by kernel_rfl) (by kernel_rfl) (by kernel_rfl) (fun _ _ _ h => h) (Or.inl ⟨by rfl, ?_⟩) (by assumption) ?_
         rotate_left 1
         ·intro w hSw
          try dsimp only at hSw
          go_simp
          all_goals with_reducible rfl
         try simp only [Act.put,List.setIfInBounds_toArray,List.set_cons_succ,List.set_cons_zero]
         refine wpAnyH_take (i := 8) (oi := ⟨some 60,.load 42 (.tmp 59),42,"ref.go:117",#[⟨7,.data⟩,⟨2,.guard⟩],some (2,false)⟩) (v := ?_) rfl (by kernel_rfl) (by kernel_rfl) (by kernel_rfl) (fun _ _ _ h => h) (Or.inl ⟨by rfl, ?_⟩) (by assumption) ?_
         rotate_left 1
         ·intro w hSw
          try dsimp only at hSw
          go_simp
          all_goals with_reducible rfl
         try simp only [Act.put,List.setIfInBounds_toArray,List.set_cons_succ,List.set_cons_zero]
         refine wpAnyH_take (i := 9) (oi := ⟨some 61,.move (.tmp 7),3,"ref.go:117",#[⟨2,.guard⟩],some (2,false)⟩) (v := ?_) rfl (by kernel_rfl) (by kernel_rfl) (by kernel_rfl) (fun _ _ _ h => h) (Or.inl ⟨by rfl, ?_⟩) (by assumption) ?_
         rotate_left 1
         ·intro w hSw
          try dsimp only at hSw
          go_simp
          all_goals with_reducible rfl
         try simp only [Act.put,List.setIfInBounds_toArray,List.set_cons_succ,List.set_cons_zero]
         refine wpAnyH_take (i := 10) (oi := ⟨some 62,.indexAddr 42 (.tmp 60) (.tmp 61),0,"ref.go:117",#[⟨8,.data⟩,⟨9,.data⟩,⟨2,.guard⟩],some (2,false)⟩) (v := ?_) rfl (by kernel_rfl) (by kernel_rfl) (by kernel_rfl) (fun _ _ _ h => h) (Or.inl ⟨by rfl, ?_⟩) (by assumption) ?_
         rotate_left 1
         ·intro w hSw
          try dsimp only at hSw
          go_simp
          all_goals with_reducible rfl
         try simp only [Act.put,List.setIfInBounds_toArray,List.set_cons_succ,List.set_cons_zero]
         refine wpAnyH_take (i := 11) (oi := ⟨some 63,.fieldAddr 50 (.tmp 62) 0,0,"ref.go:117",#[⟨10,.data⟩,⟨2,.guard⟩],some (2,false)⟩) (v := ?_) rfl (by kernel_rfl) (by kernel_rfl) (by kernel_rfl) (fun _ _ _ h => h) (Or.inl ⟨by rfl, ?_⟩) (by assumption) ?_
         rotate_left 1
         ·intro w hSw
          try dsimp only at hSw
          go_simp
          all_goals with_reducible rfl
         try simp only [Act.put,List.setIfInBounds_toArray,List.set_cons_succ,List.set_cons_zero]
         refine wpAnyH_take (i := 12) (oi := ⟨some 64,.load 34 (.tmp 63),34,"ref.go:117",#[⟨11,.data⟩,⟨2,.guard⟩],some (2,false)⟩) (v := ?_) rfl (by kernel_rfl) (by kernel_rfl) (by kernel_rfl) (fun _ _ _ h => h) (Or.inl ⟨by rfl, ?_⟩) (by assumption) ?_
         rotate_left 1
         ·intro w hSw
          try dsimp only at hSw
          go_simp
          all_goals with_reducible rfl
         try simp only [Act.put,List.setIfInBounds_toArray,List.set_cons_succ,List.set_cons_zero]
         refine wpAnyH_take (i := 13) (oi := ⟨some 65,.move (.tmp 9),3,"ref.go:117",#[⟨2,.guard⟩],some (2,false)⟩) (v := ?_) rfl (by kernel_rfl) (by kernel_rfl) (by kernel_rfl) (fun _ _ _ h => h) (Or.inl ⟨by rfl, ?_⟩) (by assumption) ?_
         rotate_left 1
         ·intro w hSw
          try dsimp only at hSw
          go_simp
          all_goals with_reducible rfl
         try simp only [Act.put,List.setIfInBounds_toArray,List.set_cons_succ,List.set_cons_zero]
         refine wpAnyH_take (i := 14) (oi := ⟨some 66,.indexAddr 34 (.tmp 64) (.tmp 65),0,"ref.go:117",#[⟨12,.data⟩,⟨13,.data⟩,⟨2,.guard⟩],some (2,false)⟩) (v := ?_) rfl (by kernel_rfl) (by kernel_rfl) (by kernel_rfl) (fun _ _ _ h => h) (Or.inl ⟨by rfl, ?_⟩) (by assumption) ?_
         rotate_left 1
         ·intro w hSw
          try dsimp only at hSw
          go_simp
          all_goals with_reducible rfl
         try simp only [Act.put,List.setIfInBounds_toArray,List.set_cons_succ,List.set_cons_zero]
         refine wpAnyH_take (i := 15) (oi := ⟨some 67,.load 9 (.tmp 66),9,"ref.go:117",#[⟨14,.data⟩,⟨2,.guard⟩],some (2,false)⟩) (v := ?_) rfl (by kernel_rfl) (by kernel_rfl) (by kernel_rfl) (fun _ _ _ h => h) (Or.inl ⟨by rfl, ?_⟩) (by assumption) ?_
         rotate_left 1
         ·intro w hSw
          try dsimp only at hSw
          go_simp
          all_goals with_reducible rfl
         try simp only [Act.put,List.setIfInBounds_toArray,List.set_cons_succ,List.set_cons_zero]
         refine wpAnyH_ready (rs := [16]) (by kernel_rfl) (by simp) ?_
         refine AllReadyH.cons (o := ⟨some 68,.call { callee := .value (.func 44),args := #[.tmp 58,.tmp 67],argTypes := #[44,9] },4,"ref.go:117",#[⟨6,.data⟩,⟨15,.data⟩,⟨2,.chain⟩,⟨2,.guard⟩],some (2,false)⟩) rfl (fun K hK => ?_) AllReadyH.nil
         go_simp
         refine (rown_calls u _ q HU.out.drew HKu.out).mono ?_
         rintro e w4 ⟨rfl,h4⟩
         refine hK.out _ _ ?_ (fun hHeld => ?_)
         ·exact HF3.out _ h4
         clear hK K
         try simp only [Act.put,List.setIfInBounds_toArray,List.set_cons_succ,List.set_cons_zero]
         refine wpAnyH_take (i := 17) (oi := ⟨some 69,.unOp .not 4 (.tmp 68),4,"ref.go:117",#[⟨16,.data⟩,⟨2,.guard⟩],some (2,false)⟩) (v := ?_) rfl (by kernel_rfl) (by kernel_rfl) (by kernel_rfl) (fun _ _ _ h => h) (Or.inl ⟨by rfl, ?_⟩) (by assumption) ?_
         rotate_left 1
         ·intro w hSw
          try dsimp only at hSw
          go_simp
          all_goals with_reducible rfl
         try simp only [Act.put,List.setIfInBounds_toArray,List.set_cons_succ,List.set_cons_zero]
         refine wpAnyH_take (i := 18) (oi := ⟨some 70,.pick (.tmp 54) (.const (.bool true)) (.tmp 69),4,"ref.go:117",#[⟨2,.data⟩,⟨17,.data⟩],none⟩) (v := ?_) rfl (by kernel_rfl) (by kernel_rfl) (by kernel_rfl) (fun _ _ _ h => h) (Or.inl ⟨by rfl, ?_⟩) (by assumption) ?_
         rotate_left 1
         ·intro w hSw
          try dsimp only at hSw
          go_simp
          all_goals with_reducible rfl
         try simp only [Act.put,List.setIfInBounds_toArray,List.set_cons_succ,List.set_cons_zero]
         refine wpAnyH_done (by kernel_rfl) ?_ _
         rw [hq]
         have HD := Lib.hid h4
         clear h4 hHeld HU
         go_wp2
         exact ⟨⟨y + 1,by omega,by omega,by go_num,HD,HY2⟩,by simp only [intOf]; omega⟩
      ·have hly' : (y < (r.f0.length : Int)) = False := eq_false hly
       have HLb : Hid (L.length + r.f0.length ≤ 100000) := Lib.hid (by have := HL.out.2.1; have := HB0.out; have := HC.out.2.2.2.2.1; omega)
       go_wp2_with (at_builtin; refine Held.out ?_)
       refine ⟨?_⟩
       refine wpList_append (by rfl) _ _ Tryz.underlying34 info_strs rfl (by decide) rfl va L.length (strV L) rfl HU.out rfl (by simp [strV]) (fun j u hu => by
        obtain ⟨ad',e,hc⟩ := str_rows HG0.out j u hu
        exact ⟨ad',e,pw_cell_below HU.out.below hc⟩) (str_one r.f0) (by have := HLb.out; simp only [maxLen]; omega) (by have := HLb.out; omega) ?_
       intro v5 w5 h5
       have H5 : Hid (S w0 w5 (RowV 9 1 v5 (L ++ r.f0).length (strV (L ++ r.f0)) • (Blk g (.cells #[.string m.n,.bool m.au,.slice (some ad) m.im.length c2,.slice A3 m.df.length c3] 44) • R))) := Lib.hid (by
        rw [strV_app] at h5
        rwa [List.length_append])
       have HL2 : Hid (L ++ r.f0 = dfN m ++ imN (m.im.take (x + 1).toNat) ∧ (L ++ r.f0).length ≤ 256 + 256 * (x + 1).toNat ∧ ∀ y ∈ m.im.take (x + 1).toNat,y.f0.all (ownsR l y.f1) = true) := Lib.hid (by
        refine ⟨by rw [imN_next hx0 HG.out, ← List.append_assoc, ← HL.out.1],by have := HL.out.2.1; have := HB0.out; rw [List.length_append]; omega, ?_⟩
        rw [take_nextR hx0 HG.out]
        intro z hz
        rcases List.mem_append.1 hz with hz | hz
        ·exact HL.out.2.2 z hz
        ·rw [List.mem_singleton.1 hz,List.all_eq_true]
         have h := HY.out
         rwa [List.take_of_length_le (by omega)] at h)
       clear h5 b2 e0
       go_wp2
       exact ⟨⟨_,x + 1,_,rfl,by omega,by omega,by go_num,H5,HL2⟩,by simp only [intOf]; omega⟩
    ·have hlt' : (x < (m.im.length : Int)) = False := eq_false hlt
     have HZ : Hid (headB l m = onceB L) := Lib.hid (by
      have h := HL.out
      rw [List.take_of_length_le (by omega)] at h
      unfold headB
      rw [← h.1,List.all_eq_true.2 h.2.2,Bool.true_and])
     obtain ⟨A5,c5,rfl,hC5⟩ := str_C rfl HR.out
     have HT := Lib.hid (rtwice_at A5 c5 L HR.out hC5)
     clear hC5
     go_wp2_with fail
     refine HT.out.mono ?_
     rintro e w9 ⟨rfl,h9⟩
     have H9 := Lib.hid h9
     clear h9 HT HR b2
     go_wp2
     go_ret
     exact ⟨by rw [HZ.out]; simp,H9.out.drop.drop⟩
end Go.Proofs.YtbjddomocggjmaaGreat.Sc
