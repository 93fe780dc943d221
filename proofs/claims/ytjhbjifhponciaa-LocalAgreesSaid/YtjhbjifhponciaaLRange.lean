/- The contracts of slices.Sort at ints and of the law's channels. -/
import Derived.Test.YtjhbjifhponciaaLClone
import Derived.Maps.RangeWalk
namespace Go.Proofs.Ytjhbjifhponciaa
open Go.RowKit Go.Maps Go.Sort Go.Shelf
set_option linter.unusedVariables false

def SortPost (base : Nat) (v : Value) (l : List Int) (w : World) (e : Ending) (w' : World) : Prop :=
  e = .returned (.tuple #[]) ∧ w'.ownsRow base 3 1 v l.length ((l.mergeSort leI).flatMap cI) ∧ w.grownBy w' v.ownBlock
theorem sortI_any (base : Nat) (v : Value) (l : List Int) (w : World) (hl : l.length ≤ 1000000) (h : w.ownsRow base 3 1 v l.length (l.flatMap cI)) :
    Calls Try.prog 40 #[v] w (SortPost base v l w) := by
  rcases h.2 with ⟨hv, hz⟩ | ⟨g, cap, cur, hv, hbase, hgb, r1, r2, r3, r4⟩
  · have hll : l = [] := List.eq_nil_of_length_eq_zero hz
    subst hll
    subst hv
    refine (AnyM.slices_Sort_int_none Try.sortA none 0 w).mono ?_
    rintro e w' ⟨rfl, rfl⟩
    exact ⟨rfl, by simpa using h, only_refl _ _⟩
  · subst hv
    have r4' : cur.toList.take l.length = l.map encZ := by rw [cI_map] at r4; simpa using r4
    have hH : Holds encZ w g 0 l.toArray := holds_of_block_i hgb r4'
    have hgl : g < w.heap.size := (Array.getElem?_eq_some_iff.1 hgb).1
    refine (AnyM.slices_Sort_int Try.sortA g 0 cap l w hH hgl (by omega)).mono ?_
    rintro e w' ⟨rfl, nn, os, rfl⟩
    refine ⟨rfl, ?_, grownBy_sorted_i _⟩
    rw [cI_map]
    exact ownsRow_sorted_i (by rw [List.length_mergeSort]) hbase hgb r1 r2 r3

theorem own_mono {w : World} {base base' : Nat} {e : TypeId} {size : Nat} {v : Value} {n : Nat} {xs : List Value} (h : w.ownsRow base e size v n xs) (hb : base' ≤ base) : w.ownsRow base' e size v n xs := by
  refine ⟨h.1, ?_⟩
  rcases h.2 with h | ⟨g, cap, cur, h1, h2, h3⟩
  · exact .inl h
  · exact .inr ⟨g, cap, cur, h1, by omega, h3⟩
set_option maxRecDepth 100000 in
set_option maxHeartbeats 2000000 in
theorem channels_any (m : Option Nat) (E : Ens) (w : World) (hm : IMV w m E) (hl : E.length ≤ 1000000) :
    Calls Try.prog 18 #[.map m] w (IntsPost (sortE E) w) := by
  obtain ⟨i0, hi0, hz0, hz1, hz2⟩ := info_parts infoInt
  rcases hm with ⟨rfl, rfl⟩ | ⟨b, rfl, H, D, hown, hents⟩
  · have hrg := run_range_nilMap (P := Try.prog) w 39 3 3 Try.underlying39
    have hnx : ∀ ty, (Instr.next (.pointer (some ⟨w.heap.size, 0, none⟩)) false ty).run Try.prog (w.alloc (.mapIter none 0 #[] 0)) = _ := fun ty => run_next_nilMap w ty 0 0 #[]
    have e0 : sortE [] = [] := by simp [sortE, keysE]
    have E0 := Lib.hid e0
    clear e0
    go_enter Try.func18, Try.ntmps18
    go_wp2
    refine wp_loop_rounds 1 ?_
    rw [rounds_succ]
    go_wp2_with fail
    refine (sortI_any w.heap.size (.slice none 0 0) [] _ (by simp) (World.ownsRow_nil _ _ _ _)).mono ?_
    rintro e w' ⟨rfl, own, gr⟩
    have F : Hid (IntsPost (sortE []) w (.returned (.slice none 0 0)) w') := by
      rw [E0.out]
      refine ⟨_, rfl, by simpa using own, ?_⟩
      exact ((Below.refl _ _).alloc (Nat.le_refl _) _).grown gr (by simp) (by intro g e; simp [Value.ownBlock] at e)
    clear own gr
    go_wp2_with fail
    go_ret
    exact F.out
  · have hbl := hown.lt
    have hsz := hents.size_
    have HSZ := Lib.hid hsz
    clear hsz
    have HEN := Lib.hid hents
    clear hents
    have HOW := Lib.hid hown
    go_enter Try.func18, Try.ntmps18
    go_wp2_with (first
      | (at_range; refine wpList_range_own _ rfl _ 39 rfl 3 3 (int_keyed Try.underlying3) Try.underlying39 _ b _ _ rfl hown ?_; intro w0 hrg0 hg0 hs0)
      | go_in)
    go_frame
    go_loopw [3] (fun v wr => ∃ (left : Lit → Bool) (cnt : Nat) (ss : List Int), wr.ranges Try.prog 3 (plainElem Try.prog 3) b w.heap.size E.length D left cnt ∧ CollectedI D left ss ∧ ss.length + cnt ≤ Maps.size D ∧ wr.ownsRow (w.heap.size + 1) 3 1 v ss.length (ss.flatMap cI) ∧ Below w.heap.size w wr)
      (fun _ wr => wr.rangeLeft b w.heap.size)
    case atStart =>
      exact ⟨_, _, [], hrg0, CollectedI.start D, by simp, World.ownsRow_nil _ _ _ _, ⟨hg0.os, hg0.tape, hg0.output, hg0.size, fun i hi => hg0.block i hi (by simp)⟩⟩
    case round =>
      obtain ⟨left, cnt, ss, hrg, hC, hcount, own, bel⟩ := hrel
      have bs := bel.size
      have hco : ss.length + cnt ≤ 1000000 := by have := HSZ.out; omega
      have HCO := Lib.hid hcount
      clear hcount hown
      have OG : Hid (∀ g, u3.ownBlock = some g → w.heap.size + 1 ≤ g) := fun g e => (own.lt g e).1
      have NI := Lib.hid (row_ne_iter own hrg)
      go_wp2_with (first
        | (at_next; refine wpList_next_ranges_ii _ rfl _ rfl 3 3 .i64 .i64 (int_keyed Try.underlying3) Try.underlying3 Try.underlying3 b w.heap.size E.length _ _ _ rfl hrg ?_ ?_)
        | go_in)
      · intro _ hl0
        have hp : ss.Perm (keysE E) := (hC.perm HOW.out (int_keyed Try.underlying3) Try.underlying3 hl0).trans (IMap.keys Try.underlying3 HOW.out HEN.out).symm
        have es : Hid (ss.mergeSort leI = sortE E) := mergeSort_of_perm_i hp
        have hsl : ss.length = E.length := by rw [hp.length_eq]; simp [keysE]
        have OWN := Lib.hid own
        have BEL := Lib.hid bel
        have hss : ss.length ≤ 1000000 := by omega
        have HSL := Lib.hid hsl
        clear hrg hC own bel hp hsl
        go_wp2_with fail
        refine (sortI_any (w.heap.size + 1) u3 ss _ hss OWN.out).mono ?_
        rintro e w' ⟨rfl, own7, gr7⟩
        have F : Hid (IntsPost (sortE E) w (.returned u3) w') := by
          refine ⟨u3, rfl, ?_, BEL.out.grown gr7 bs (by intro g e; have := OG.out g e; omega)⟩
          have e2 : (sortE E).length = ss.length := by rw [← es.out, List.length_mergeSort]
          rw [e2, ← es.out]
          exact own_mono own7 (by omega)
        clear own7 gr7
        go_wp2_with fail
        go_ret
        exact F.out
      · intro x c w1 cnt1 hwx hwc hlx hat hrg1 hlt hg1 hs1 hen
        have own1 := own.kept hg1 (by
          cases hb : u3.ownBlock with
          | none => exact .inl rfl
          | some q => exact .inr (by rw [← hb]; exact fun e => NI.out e.symm))
        have bel1 : Below w.heap.size w w1 := bel.grown hg1 bs (by intro g e; injection e with e; omega)
        have HC1 := Lib.hid (hC.step hlx hat)
        have bs1 := bel1.size
        have HRG := Lib.hid hrg
        have HRG1 := Lib.hid hrg1
        have hs1' : w.heap.size + 1 ≤ w1.heap.size := by
          have h1 := hrg1.lt
          omega
        clear own hC hat hs1 hg1 bel hrg hrg1
        go_wp2_with (at_builtin; refine wpList_append_own _ rfl _ _ 27 rfl (w.heap.size + 1) 3 i0 _ 1 8 Try.underlying27 hi0 hz0 hz1 hz2 rfl (by decide) _ _ _ rfl (own1.alloc _) ⟨w1.heap.size, 0, none⟩ 1 1 [.int .i64 x] rfl rfl (World.news_of_block (cs := #[.int .i64 x]) (t := 3) (fr := (0, 0)) (heap_alloc_new w1 _)) ?n2 ?n3 ?n4 ?n5 ?_)
        case n2 => intro u hu; simp at hu; subst hu; rfl
        case n3 => unfold maxLen; omega
        case n4 => omega
        case n5 => simp; omega
        intro v' w4 own4 gr4 _
        have NB : Hid (some b ≠ u3.ownBlock) := fun e => by have := OG.out b e.symm; omega
        have rg4 : w4.ranges Try.prog 3 (plainElem Try.prog 3) b w.heap.size E.length D (fun z => left z && !z.sameKey (.int .i64 x)) cnt1 := (HRG1.out.alloc _).kept gr4 NB.out NI.out
        have RG4 := Lib.hid rg4
        have own5 : w4.ownsRow (w.heap.size + 1) 3 1 v' (ss ++ [x]).length ((ss ++ [x]).flatMap cI) := by
          rw [List.length_append, List.flatMap_append]; exact own4
        have bel4 : Below w.heap.size w w4 := (bel1.alloc bs1 _).grown gr4 (by simp; omega) (by intro g e; have := OG.out g e; omega)
        have RR : Hid (∃ (left : Lit → Bool) (cnt : Nat) (ss : List Int), w4.ranges Try.prog 3 (plainElem Try.prog 3) b w.heap.size E.length D left cnt ∧ CollectedI D left ss ∧ ss.length + cnt ≤ Maps.size D ∧ w4.ownsRow (w.heap.size + 1) 3 1 v' ss.length (ss.flatMap cI) ∧ Below w.heap.size w w4) :=
          ⟨_, cnt1, ss ++ [x], rg4, HC1.out, by have := HCO.out; simp; omega, own5, bel4⟩
        clear own4 gr4 own1 rg4 own5 bel4 bel1
        go_wp2
        go_roundw
        case rel => exact RR.out
        case measure => rw [RG4.out.left_eq, HRG.out.left_eq]; exact hlt
end Go.Proofs.Ytjhbjifhponciaa
