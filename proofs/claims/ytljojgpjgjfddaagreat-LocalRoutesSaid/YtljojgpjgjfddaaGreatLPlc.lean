/- The contract of order.Places. -/
import Derived.Test.YtljojgpjgjfddaaGreatLPlcP
import Derived.Test.YtljojgpjgjfddaaGreatLaidP
namespace Go.Proofs.YtljojgpjgjfddaaGreat
open Go.RowKit Go.Maps Go.Sort Go.Shelf
set_option linter.unusedVariables false
set_option linter.unusedSimpArgs false

def encF {n : Nat} (a : Fin n) : Value := .int .i64 (a.val : Int)
set_option maxRecDepth 100000 in
set_option maxHeartbeats 2000000 in
theorem plc1_any (lv : List Int) (Al : Option Addr) (cl g : Nat) (a b : Fin lv.length) (w : World) (hl : lv.length ≤ 1000000) (hc : w.cell? ⟨g, 0, none⟩ = some (.slice Al lv.length cl)) (hg : g < w.heap.size) (h : IsRec 1 cI 0 w Al lv.length lv) :
    Calls Tryz.prog 94 #[.int .i64 (a.val : Int), .int .i64 (b.val : Int), .pointer (some ⟨g, 0, none⟩)] w fun e w' => e = .returned (.int .i64 (cfP lv.length lv a b)) ∧ Grown w w' := by
  obtain ⟨i, hi⟩ := a
  obtain ⟨j, hj⟩ := b
  obtain ⟨bl, ol, hal, hbl, hma, ea⟩ := int_at h i hi
  obtain ⟨bl', ol', hal', _, hmb, eb⟩ := int_at h j hj
  rw [hal] at hal'
  injection hal' with hal'
  injection hal' with hal1 hal2
  subst hal1
  subst hal2
  have F : Hid (cfP lv.length lv ⟨i, hi⟩ ⟨j, hj⟩ = orL [cmpZ (lv.getD i 0) (lv.getD j 0), cmpZ i j]) := rfl
  rw [F.out]
  have i1 : (i : Int) < (lv.length : Int) := by omega
  have j1 : (j : Int) < (lv.length : Int) := by omega
  have i0 : (0 : Int) ≤ (i : Int) := by omega
  have j0 : (0 : Int) ≤ (j : Int) := by omega
  generalize lv.getD i 0 = va at *
  generalize lv.getD j 0 = vb at *
  subst hal
  clear F hma hmb h
  have KP : Hid (∀ w', Below w.heap.size w w' → w'.cell? ⟨g, 0, none⟩ = some (.slice (some ⟨bl, ol, none⟩) lv.length cl) ∧ w'.cell? ⟨bl, ol + i, none⟩ = some (.int .i64 va) ∧ w'.cell? ⟨bl, ol + j, none⟩ = some (.int .i64 vb)) :=
    fun w' hb => ⟨(hb.cell (by exact hg)).trans hc, (hb.cell (by exact hbl)).trans ea, (hb.cell (by exact hbl)).trans eb⟩
  have BA : Hid (∀ o, Below w.heap.size w (w.alloc o).drew) := fun o => ((Below.refl _ _).alloc (Nat.le_refl _) _).drew
  have RC : Hid (IsRec 1 cI 0 (w.alloc (.cells #[.int .i64 (cmpZ va vb), .int .i64 (cmpZ i j)] 3)).drew (some ⟨w.heap.size, 0, none⟩) 2 [cmpZ va vb, cmpZ i j]) := by
    refine ⟨rfl, fun _ => ⟨_, 0, rfl, by simp, fun q r hq hr => ?_⟩⟩
    rw [((Blk.new w 3 _).drew).cell]
    obtain rfl : r = 0 := by omega
    match q, hq with
    | 0, _ => rfl
    | 1, _ => rfl
  go_enter Tryz.func94, Tryz.ntmps94
  go_wp2_with fail
  go_region_held3 (fun w' => w'.cell? ⟨g, 0, none⟩ = some (.slice (some ⟨bl, ol, none⟩) lv.length cl) ∧ w'.cell? ⟨bl, ol + i, none⟩ = some (.int .i64 va) ∧ w'.cell? ⟨bl, ol + j, none⟩ = some (.int .i64 vb))
    (first | exact KP.out _ ((Below.refl _ _).drew) | exact KP.out _ (BA.out _))
    (first
      | (go_at_call 56; refine (cmpI_any _ _ _).mono ?_; rintro e w' ⟨rfl, rfl⟩)
      | (go_at_call 55; refine (cmpOr_any [cmpZ va vb, cmpZ i j] _ _ _ (by simp) RC.out).mono ?_; rintro e w' ⟨rfl, rfl⟩))
  all_goals
    go_wp2_with fail
    go_ret
    exact ⟨rfl, ((Grown.refl _).alloc _).drew⟩

section
variable {n : Nat}
theorem holds_of_blockF {w : World} {g : Nat} {cur : Array Value} {e : TypeId} {ss : List (Fin n)} [Inhabited (Fin n)] (hb : w.heap[g]? = some (.cells cur e (0, 0))) (ht : cur.toList.take ss.length = ss.map encF) : Holds encF w g 0 ss.toArray := by
  intro j hj
  have hj' : j < ss.length := by simpa using hj
  refine ⟨?_, by simp [World.frozen?, hb]⟩
  have h1 : (cur.toList.take ss.length)[j]? = (ss.map encF)[j]? := by rw [ht]
  rw [List.getElem?_take_of_lt hj'] at h1
  simp only [World.cell?, hb, Nat.zero_add]
  simp only [Option.isSome_none, Bool.false_eq_true, if_false]
  rw [← Array.getElem?_toList, h1]
  simp [hj']
theorem heap_sortedF {w : World} {g m : Nat} {os : Array Obj} {cur : Array Value} {e : TypeId} {fr : Nat × Nat} [Inhabited (Fin n)] (d : Array (Fin n)) (hb : w.heap[g]? = some (.cells cur e fr)) :
    (sortWorld encF w g 0 m d os).heap[g]? = some (.cells (putCells encF 0 d cur) e fr) := by
  have hg : g < w.heap.size := (Array.getElem?_eq_some_iff.1 hb).1
  unfold sortWorld
  rw [heap_grow_old _ _ (by simpa using hg)]
  simp [putRow, mapBlock, Sort.ahead, Array.getElem?_modify, hb, onCells]
theorem grownBy_sortedF {w : World} {g m : Nat} {os : Array Obj} [Inhabited (Fin n)] (d : Array (Fin n)) : w.grownBy (sortWorld encF w g 0 m d os) (some g) := by
  refine ⟨rfl, rfl, rfl, by simp [sortWorld], fun k hk hne => ?_⟩
  unfold sortWorld
  rw [heap_grow_old _ _ (by simpa using hk)]
  have : g ≠ k := fun e => hne (by rw [e])
  simp [putRow, mapBlock, Sort.ahead, Array.getElem?_modify, this]
theorem take_putCellsF [Inhabited (Fin n)] (cur : Array Value) (ts : List (Fin n)) (h : ts.length ≤ cur.size) : (putCells encF 0 ts.toArray cur).toList.take ts.length = ts.map encF := by
  apply List.ext_getElem?
  intro j
  by_cases hj : j < ts.length
  · rw [List.getElem?_take_of_lt hj, Array.getElem?_toList]
    simp [putCells, hj, show j < cur.size by omega]
  · rw [List.getElem?_take_eq_none (by omega), List.getElem?_eq_none (by simp; omega)]
end
theorem oneF {n : Nat} : OneCell (encF (n := n)) := fun _ => rfl
set_option maxRecDepth 100000 in
/-- slices.SortFunc(nodes, by level and number): the same slice owns the sorted list. -/
theorem sortFI_any (lv : List Int) (Al : Option Addr) (cl g0 base : Nat) (v : Value) (ss : List (Fin lv.length)) (w : World) (hn : 0 < lv.length) (hl : lv.length ≤ 1000000) (hls : ss.length ≤ 1000000) (hs0 : 0 < ss.length) (hc : w.cell? ⟨g0, 0, none⟩ = some (.slice Al lv.length cl)) (hg0 : g0 < base) (hA : ∀ x, Al = some x → x.block < base)
    (hlv : IsRec 1 cI 0 w Al lv.length lv) (h : w.ownsRow base 3 1 v ss.length (ss.map encF)) :
    Calls Tryz.prog 93 #[v, .func (.func 94) #[] #[.pointer (some ⟨g0, 0, none⟩)]] w fun e w' => e = .returned (.tuple #[]) ∧ w'.ownsRow base 3 1 v ss.length ((ss.mergeSort fun x y => !(ltOf (cfP lv.length lv)) y x).map encF) ∧ w.grownBy w' v.ownBlock := by
  haveI : Inhabited (Fin lv.length) := ⟨⟨0, hn⟩⟩
  rcases h.2 with ⟨rfl, hn0⟩ | ⟨g, cap, cur, rfl, hb, hg, r1, r2, r3, r4⟩
  · omega
  · have hgl : g < w.heap.size := (Array.getElem?_eq_some_iff.1 hg).1
    rw [Nat.mul_one] at r4
    have hcon := Any.slices_SortFunc_total Tryz.sortP encF oneF (cfP lv.length lv) (swoP _ _) 94 #[.pointer (some ⟨g0, 0, none⟩)] g 0 cap ss.toArray w
      (enters_of Tryz.func94 (by kernel_rfl) rfl) (fun m os dk hdk x y => by
        have gr := grownBy_sortedF (w := w) (g := g) (m := m) (os := os) dk
        refine plc1_any lv Al cl g0 x y _ hl ?_ ?_ (hlv.grown gr (fun x hx e => by have := hA x hx; injection e with e; omega))
        · rw [World.cell?_of_block (gr.block g0 (by omega) (by intro e; injection e with e; omega))]; exact hc
        · have := gr.size; omega) (holds_of_blockF hg r4) hgl (by simp; omega) (totP _ _)
    have e1 : ss.toArray.size = ss.length := by simp
    rw [e1] at hcon
    refine hcon.mono ?_
    rintro e w' ⟨rfl, m, os, rfl⟩
    refine ⟨rfl, ⟨by simp, .inr ⟨g, cap, _, rfl, hb, heap_sortedF _ hg, r1, r2, by simp [putCells, r3], ?_⟩⟩, grownBy_sortedF _⟩
    rw [Nat.mul_one]
    have := take_putCellsF cur (ss.mergeSort fun x y => !(ltOf (cfP lv.length lv)) y x) (by rw [List.length_mergeSort, r3]; omega)
    rw [List.length_mergeSort] at this
    exact this
/-- The places as the first loop writes them. -/
def row1P (k : Nat) (j : Nat) : List Value := [.int .i64 (if j < k then -1 else 0)]
def liveV (lv : List Int) (k : Nat) : List Int := (liveN lv k).map fun v : Nat => (v : Int)
theorem liveV_succ (lv : List Int) (k : Nat) : liveV lv (k + 1) = liveV lv k ++ (if 0 ≤ lv.getD k 0 then [(k : Int)] else []) := by
  unfold liveV
  rw [liveN_succ, List.map_append]
  split <;> rfl
theorem liveV_len (lv : List Int) (k : Nat) : (liveV lv k).length ≤ k := by unfold liveV; rw [List.length_map]; exact liveN_len lv k
theorem liveV_F (lv : List Int) : (liveV lv lv.length).flatMap cI = (liveF lv.length lv).map encF := by
  rw [cI_map]
  unfold liveV
  rw [← liveF_val, List.map_map, List.map_map]
  rfl
theorem liveF_len (lv : List Int) : (liveF lv.length lv).length = (liveV lv lv.length).length := by
  unfold liveV
  rw [← liveF_val, List.length_map, List.length_map]
theorem row1P_set (k : Nat) (i : Nat) : setR (row1P k) k 0 (.int .i64 (-1)) i = row1P (k + 1) i := by
  unfold setR row1P
  by_cases e : i = k
  · subst e; rw [if_pos rfl, if_pos (Nat.lt_succ_self i)]; rfl
  · rw [if_neg e]
    by_cases h : i < k
    · rw [if_pos h, if_pos (show i < k + 1 by omega)]
    · rw [if_neg h, if_neg (show ¬ i < k + 1 by omega)]
def row2P (lv : List Int) (k : Nat) (j : Nat) : List Value := [.int .i64 (plcAt lv k j)]
theorem row2P_set {lv : List Int} {k i : Nat} (hk : k < (ordF lv.length lv).length) (hi : i < lv.length) : setR (row2P lv k) ((ordF lv.length lv)[k]).val 0 (.int .i64 k) i = row2P lv (k + 1) i := by
  unfold setR row2P
  rw [plcAt_step hk hi]
  by_cases e : i = ((ordF lv.length lv)[k]).val
  · rw [if_pos e, if_pos e]; rfl
  · rw [if_neg e, if_neg e]

def RelP1 (lv : List Int) (w1 : World) (v i : Value) (wr : World) : Prop :=
  ∃ k : Nat, k ≤ lv.length ∧ i = .int .i64 k ∧ RBlk wr w1.heap.size 3 1 lv.length (row1P k) ∧ wr.ownsRow (w1.heap.size + 1) 3 1 v (liveV lv k).length ((liveV lv k).flatMap cI) ∧ Below w1.heap.size w1 wr
def RelP2 (lv : List Int) (w1 : World) (v : Value) (m : Nat) (i : Value) (wr : World) : Prop :=
  ∃ k : Nat, k ≤ m ∧ i = .int .i64 k ∧ RBlk wr w1.heap.size 3 1 lv.length (row2P lv k) ∧ wr.ownsRow (w1.heap.size + 1) 3 1 v m ((ordF lv.length lv).map encF) ∧ Below w1.heap.size w1 wr
set_option maxRecDepth 100000 in
set_option maxHeartbeats 4000000 in
theorem places_any (lv : List Int) (Al : Option Addr) (cl : Nat) (w : World) (hl : lv.length ≤ 1000000) (h0 : 0 < (liveN lv lv.length).length) (h : IsRec 1 cI 0 w Al lv.length lv) :
    Calls Tryz.prog 43 #[.agg #[.slice Al lv.length cl]] w fun e w' => ∃ g, w.heap.size ≤ g ∧ e = .returned (.slice (some ⟨g, 0, none⟩) lv.length lv.length) ∧ IsRec 1 cI 0 w' (some ⟨g, 0, none⟩) lv.length (placesL lv) ∧ Below w.heap.size w w' := by
  have hn : 0 < lv.length := Nat.lt_of_lt_of_le h0 (liveN_len _ _)
  have hm0 : (liveF lv.length lv).length = (liveN lv lv.length).length := by rw [← liveF_val, List.length_map]
  obtain ⟨w1, hw1⟩ : ∃ w1 : World, w.alloc (.cells #[.slice Al lv.length cl] 30) = w1 := ⟨_, rfl⟩
  have s0 : w1.cell? ⟨w.heap.size, 0, none⟩ = some (.slice Al lv.length cl) := by rw [← hw1]; simp [go_sem]
  have sz1 : w1.heap.size = w.heap.size + 1 := by rw [← hw1]; simp
  have BW : Hid (Below w.heap.size w w1) := by rw [Hid, ← hw1]; exact (Below.refl _ _).alloc (Nat.le_refl _) _
  have L1 := Lib.hid (h.below (Nat.le_refl _) BW.out)
  have HA : Hid (∀ x, Al = some x → x.block < w1.heap.size) := by
    obtain ⟨b, off, ha, hb, _⟩ := L1.out.2 hn
    intro x hx
    rw [ha] at hx
    injection hx with hx
    subst hx
    exact hb
  have KC : Hid (∀ w', Below w1.heap.size w1 w' → w'.cell? ⟨w.heap.size, 0, none⟩ = some (.slice Al lv.length cl) ∧ IsRec 1 cI 0 w' Al lv.length lv) :=
    fun w' hb => ⟨(hb.cell (by show w.heap.size < _; omega)).trans s0, L1.out.below (Nat.le_refl _) hb⟩
  obtain ⟨j0, hj0, hy0, hy1, hy2⟩ := info_parts infoInt
  obtain ⟨o4, ho4⟩ : ∃ o4, Obj.cells (madeCells #[.int .i64 0] lv.length) 3 = o4 := ⟨_, rfl⟩
  have HO4 := Lib.hid ho4
  have HW1 := Lib.hid hw1
  have HM0 := Lib.hid hm0
  have H0 := Lib.hid h0
  clear ho4 hw1 h hm0 h0
  go_enter Tryz.func43, Tryz.ntmps43
  go_wp2_with (at_make; refine wpList_make_rec _ rfl _ _ 28 rfl 3 j0 _ 1 Tryz.underlying28 hj0 hy0 hy1 .i64 .i64 _ _ lv.length rfl rfl ?m1 ?m2 (by rw [hy2]; omega) (by unfold maxLen; omega) ?_)
  case m1 => rfl
  case m2 => rfl
  rw [HO4.out, HW1.out]
  obtain ⟨w2, hw2⟩ : ∃ w2 : World, w1.alloc o4 = w2 := ⟨_, rfl⟩
  have ST : Hid (RelP1 lv w1 (.slice none 0 0) (.int .i64 0) w2) := by
    refine ⟨0, Nat.zero_le _, rfl, ?_, World.ownsRow_nil _ _ _ _, ?_⟩
    · rw [← hw2, ← HO4.out]
      have := RBlk.made w1 (m := 1) (n := lv.length) (t := 3) (z := #[.int .i64 0]) rfl (by decide)
      rw [Nat.mul_one] at this
      exact this.congr fun i hi => rfl
    · rw [← hw2]; exact (Below.refl _ _).alloc (Nat.le_refl _) _
  have c2 : w2.cell? ⟨w.heap.size, 0, none⟩ = some (.slice Al lv.length cl) := by
    rw [← hw2]
    exact (((Below.refl w1.heap.size w1).alloc (Nat.le_refl _) o4).cell (by show w.heap.size < _; omega)).trans s0
  have eg : w.heap.size + 1 = w1.heap.size := sz1.symm
  rw [hw2]
  try rw [eg]
  have SZ1 := Lib.hid sz1
  clear hw2 HO4 HW1 s0 eg sz1
  go_wp2_with fail
  go_loopw [4, 16] (fun v i wr => RelP1 lv w1 v i wr) (fun _ i _ => lv.length - (RowKit.intOf i).toNat)
  case atStart => exact ST.out
  case round =>
    clear ST c2
    obtain ⟨k, hk, rfl, rb, own, bel⟩ := hrel
    have RB := Lib.hid rb
    have OWN := Lib.hid own
    have BE := Lib.hid bel
    have hkl := liveV_len lv k
    by_cases hkr : k < lv.length
    · obtain ⟨bb, off, ha, hbb, hmem, c0⟩ := int_at (KC.out wr bel).2 k hkr
      have hll := liveV_succ lv k
      generalize lv.getD k 0 = x at *
      subst ha
      have k1 : (k : Int) < (lv.length : Int) := by omega
      have fz : wr.frozen? ⟨w1.heap.size, k, none⟩ = false := rb.frozen _
      have cz : wr.cell? ⟨w1.heap.size, k, none⟩ = some (.int .i64 (if k < k then -1 else 0)) := by have := rb.cell (i := k) (j := 0) hkr (by omega); simpa [row1P] using this
      have glt := rb.lt
      have RB2 : Hid (RBlk (wr.setCell ⟨w1.heap.size, k, none⟩ (.int .i64 (-1))) w1.heap.size 3 1 lv.length (row1P (k + 1))) := (rb.set1 hkr (.int .i64 (-1))).congr fun i hi => row1P_set k i
      have BE2 : Hid (Below w1.heap.size w1 (wr.setCell ⟨w1.heap.size, k, none⟩ (.int .i64 (-1)))) := bel.setCell (Nat.le_refl _) _
      have OWN2 : Hid ((wr.setCell ⟨w1.heap.size, k, none⟩ (.int .i64 (-1))).ownsRow (w1.heap.size + 1) 3 1 u4 (liveV lv k).length ((liveV lv k).flatMap cI)) :=
        own_keptJ own (only_setCell (only_refl wr (some w1.heap.size)) (.inl rfl) _) (fun q hq => by have := (own.lt q hq).1; omega)
      have OG : Hid (∀ g, u4.ownBlock = some g → w1.heap.size + 1 ≤ g) := fun g e => (own.lt g e).1
      clear rb own bel hmem
      by_cases hx : 0 ≤ x
      · rw [if_pos hx] at hll
        have HLL := Lib.hid hll
        have szs : (wr.setCell ⟨w1.heap.size, k, none⟩ (.int .i64 (-1))).heap.size = wr.heap.size := by simp
        generalize liveV lv k = xs at *
        go_wp2_with (at_builtin; refine wpList_append_own _ rfl _ _ 28 rfl (w1.heap.size + 1) 3 j0 _ 1 8 Tryz.underlying28 hj0 hy0 hy1 hy2 rfl (by decide) _ _ _ rfl (OWN2.out.alloc _) ⟨wr.heap.size, 0, none⟩ 1 1 [.int .i64 (k : Int)] rfl rfl ?e1 ?e2 ?e3 ?e4 ?e5 ?_)
        case e1 => exact World.news_of_block (cs := #[.int .i64 (k : Int)]) (t := 3) (fr := (0, 0)) (by have h := heap_alloc_new (wr.setCell ⟨w1.heap.size, k, none⟩ (.int .i64 (-1))) (.cells #[.int .i64 (k : Int)] 3); rw [szs] at h; exact h)
        case e2 => intro u hu; simp at hu; subst hu; rfl
        case e3 => unfold maxLen; omega
        case e4 => omega
        case e5 => simp; omega
        intro v' w4 own4 gr4 _
        have R : RelP1 lv w1 v' (.int .i64 ((k + 1 : Nat) : Int)) w4 := by
          refine ⟨k + 1, by omega, rfl, ?_, ?_, ?_⟩
          · exact (RB2.out.alloc _).grown gr4 (fun e => by have := OG.out _ e.symm; omega)
          · rw [HLL.out, List.length_append, List.flatMap_append]; exact own4
          · exact (BE2.out.alloc BE2.out.size _).grown gr4 (by simp; omega) (fun g e => by have := OG.out g e; omega)
        clear own4 gr4
        go_wp2
        exact ⟨by simpa using R, by simp [RowKit.intOf]; omega⟩
      · rw [if_neg hx, List.append_nil] at hll
        have R : Hid (RelP1 lv w1 u4 (.int .i64 ((k + 1 : Nat) : Int)) (wr.setCell ⟨w1.heap.size, k, none⟩ (.int .i64 (-1)))) :=
          ⟨k + 1, by omega, rfl, RB2.out, by rw [hll]; exact OWN2.out, BE2.out⟩
        have q1 : decide ((0 : Int) ≤ x) = false := decide_eq_false hx
        clear hll
        go_wp2_with fail
        exact ⟨by simpa using R.out, by simp [RowKit.intOf]; omega⟩
    · obtain rfl : k = lv.length := by omega
      have hs0 : 0 < (liveF lv.length lv).length := by have := HM0.out; have := H0.out; omega
      have hls : (liveF lv.length lv).length ≤ 1000000 := by have := HM0.out; have := liveN_len lv lv.length; omega
      rw [liveV_F, ← liveF_len] at own
      have SC := Lib.hid (sortFI_any lv Al cl w.heap.size (w1.heap.size + 1) u4 (liveF lv.length lv) wr hn hl hls hs0 (KC.out wr bel).1 (by have := SZ1.out; omega) (fun x hx => by have := HA.out x hx; omega) (KC.out wr bel).2 own)
      have OG : Hid (∀ g, u4.ownBlock = some g → w1.heap.size + 1 ≤ g) := fun g e => (own.lt g e).1
      obtain ⟨g5, cap5, hv5, hg5, hg5l⟩ := own.form (by omega)
      subst hv5
      clear rb own bel OWN hkl hkr
      go_wp2_with fail
      refine (show Calls _ _ _ _ _ from SC.out).mono ?_
      rintro e w4 ⟨rfl, own4, gr4⟩
      have hol : (ordF lv.length lv).length = (liveF lv.length lv).length := by unfold ordF; rw [List.length_mergeSort]
      have own5 : w4.ownsRow (w1.heap.size + 1) 3 1 (.slice (some ⟨g5, 0, none⟩) (liveF lv.length lv).length cap5) (liveF lv.length lv).length ((ordF lv.length lv).map encF) := own4
      have ST2 : Hid (RelP2 lv w1 (.slice (some ⟨g5, 0, none⟩) (liveF lv.length lv).length cap5) (liveF lv.length lv).length (.int .i64 0) w4) := by
        refine ⟨0, Nat.zero_le _, rfl, ?_, own5, ?_⟩
        · refine (RB.out.grown gr4 (fun e => by have := OG.out _ e.symm; omega)).congr fun i hi => ?_
          unfold row1P row2P
          rw [if_pos hi, plcAt_zero]
        · exact BE.out.grown gr4 BE.out.size (fun g e => by have := OG.out g e; omega)
      have HOL := Lib.hid hol
      clear own4 own5 gr4 SC RB BE hol
      generalize hmm : (liveF lv.length lv).length = m at *
      clear hmm
      go_wp2_with fail
      go_loopw [36] (fun i wx => RelP2 lv w1 (.slice (some ⟨g5, 0, none⟩) m cap5) m i wx) (fun i _ => m - (RowKit.intOf i).toNat)
      case atStart => exact ST2.out
      case round =>
        clear ST2
        obtain ⟨k, hk, rfl, rb, own, bel⟩ := hrel
        by_cases hkr : k < m
        · have hko : k < (ordF lv.length lv).length := by rw [HOL.out]; exact hkr
          have cc : wr.cell? ⟨g5, k, none⟩ = some (.int .i64 (((ordF lv.length lv)[k]).val : Int)) := by rw [own.cellAt k (by omega)]; simp [encF, hko]
          have hnd : ((ordF lv.length lv)[k]).val < lv.length := ((ordF lv.length lv)[k]).isLt
          have RS : Hid (RBlk (wr.setCell ⟨w1.heap.size, ((ordF lv.length lv)[k]).val, none⟩ (.int .i64 (k : Int))) w1.heap.size 3 1 lv.length (row2P lv (k + 1))) := (rb.set1 hnd (.int .i64 (k : Int))).congr fun i hi => row2P_set hko hi
          have glt := rb.lt
          have fz : wr.frozen? ⟨w1.heap.size, ((ordF lv.length lv)[k]).val, none⟩ = false := rb.frozen _
          have cz : wr.cell? ⟨w1.heap.size, ((ordF lv.length lv)[k]).val, none⟩ = some (.int .i64 (plcAt lv k ((ordF lv.length lv)[k]).val)) := by have := rb.cell (i := ((ordF lv.length lv)[k]).val) (j := 0) hnd (by omega); simpa [row2P] using this
          generalize ((ordF lv.length lv)[k]).val = y at *
          generalize plcAt lv k y = z at *
          have y1 : (y : Int) < (lv.length : Int) := by omega
          have R : Hid (RelP2 lv w1 (.slice (some ⟨g5, 0, none⟩) m cap5) m (.int .i64 ((k + 1 : Nat) : Int)) (wr.setCell ⟨w1.heap.size, y, none⟩ (.int .i64 (k : Int)))) :=
            ⟨k + 1, by omega, rfl, RS.out, own_keptJ own (only_setCell (only_refl wr (some w1.heap.size)) (.inl rfl) _) (fun q hq => by have := (own.lt q hq).1; omega), bel.setCell (Nat.le_refl _) _⟩
          clear rb own bel
          go_wp2_with fail
          exact ⟨by simpa using R.out, by simp [RowKit.intOf]; omega⟩
        · obtain rfl : k = m := by omega
          have PR : Hid (IsRec 1 cI 0 wr (some ⟨w1.heap.size, 0, none⟩) lv.length (placesL lv)) :=
            rb.isRec (by unfold placesL; simp) fun i hi => by unfold row2P; rw [← HOL.out, plcAt_end hi]; rfl
          have BF : Hid (Below w.heap.size w wr) := BW.out.trans (bel.mono BW.out.size)
          clear rb own bel
          go_wp2_with fail
          go_ret
          exact ⟨_, by have := SZ1.out; omega, rfl, PR.out, BF.out⟩
end Go.Proofs.YtljojgpjgjfddaaGreat
