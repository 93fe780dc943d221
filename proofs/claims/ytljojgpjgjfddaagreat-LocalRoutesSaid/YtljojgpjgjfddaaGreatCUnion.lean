/- The contracts of slices.SortedFunc(maps.Keys(m), compare) and of channel.Union. -/
import Derived.Test.YtljojgpjgjfddaaGreatCSort
namespace Go.Proofs.YtljojgpjgjfddaaGreat
open Go.RowKit Go.Maps Go.Sort Go.Shelf
set_option linter.unusedVariables false

/-- A new slice of dependencies. -/
def DepsPost (l : List Dp) (w : World) (e : Ending) (w' : World) : Prop :=
  ∃ v, e = .returned v ∧ w'.ownsRow w.heap.size 69 3 v l.length (l.flatMap cD) ∧ Below w.heap.size w w'
theorem leD_trans (a b c : Dp) (h1 : (!(ltOf cmp3) b a) = true) (h2 : (!(ltOf cmp3) c b) = true) : (!(ltOf cmp3) c a) = true := by
  simp only [Bool.not_eq_true', ltD_not] at *
  unfold lexD at *; omega
theorem leD_total (a b : Dp) : ((!(ltOf cmp3) b a) || !(ltOf cmp3) a b) = true := by
  simp only [Bool.or_eq_true, Bool.not_eq_true', ltD_not]
  unfold lexD; omega
theorem sortD_of_perm {l l' : List Dp} (h : l.Perm l') : sortD l = sortD l' := by
  unfold sortD
  refine List.Perm.eq_of_pairwise (le := fun a b => (!(ltOf cmp3) b a) = true) (fun a b _ _ h1 h2 => ?_) (List.pairwise_mergeSort leD_trans leD_total l) (List.pairwise_mergeSort leD_trans leD_total l') (((List.mergeSort_perm l _).trans h).trans (List.mergeSort_perm l' _).symm)
  simp only [Bool.not_eq_true'] at h1 h2
  exact totD a b h2 h1
theorem sortedD_any (Bm b nn : Nat) (L : List Dp) (w : World) (hl : L.length ≤ 1000000) (hBm : Bm < w.heap.size) (hm : w.cell? ⟨Bm, 0, none⟩ = some (.map (some b))) (hS : DSet w b nn L) :
    Calls Tryz.prog 40 #[.func (.func 92) #[] #[.pointer (some ⟨Bm, 0, none⟩)], .func (.func 42) #[] #[]] w (DepsPost (sortD L) w) := by
  have hcon := Lib.hid (collectD_any Bm b nn L w hl hBm hm hS)
  clear hm hS
  go_enter Tryz.func40, Tryz.ntmps40
  go_wp2_with fail
  refine hcon.out.mono ?_
  rintro e w1 ⟨v, ss, rfl, hp, hrow, hb⟩
  have hsl : ss.length ≤ 1000000 := by rw [hp.length_eq]; exact hl
  have HP := Lib.hid hp
  have HR := Lib.hid hrow
  have HB := Lib.hid hb
  clear hp hrow hb
  go_wp2_with fail
  refine (sortFD_any w.heap.size v ss _ hsl HR.out).mono ?_
  rintro e w2 ⟨rfl, own, hg⟩
  have F : Hid (DepsPost (sortD L) w (.returned v) w2) := by
    refine ⟨v, rfl, ?_, HB.out.grown hg HB.out.size (fun g e => (HR.out.lt g e).1)⟩
    rw [← sortD_of_perm HP.out, sortD_length]; exact own
  clear own hg
  go_wp2_with fail
  go_ret
  exact F.out

def unionD (a b : List Dp) : List Dp := sortD (setOfD (a ++ b))
def RelU (ds : List Dp) (w : World) (m : Nat) (pre : List Dp) (i : Value) (wr : World) : Prop :=
  ∃ k : Nat, k ≤ ds.length ∧ i = .int .i64 k ∧ DSet wr w.heap.size (m + k) (setOfD (pre ++ ds.take k)) ∧ Below w.heap.size w wr
set_option maxRecDepth 100000 in
set_option maxHeartbeats 2000000 in
theorem union_any (a b : List Dp) (A1 A2 : Option Addr) (c1 c2 : Nat) (w : World) (ha : a.length ≤ 400000) (hb : b.length ≤ 400000) (wa : WfD a) (wb : WfD b) (h1 : IsRec 3 cD d0 w A1 a.length a) (h2 : IsRec 3 cD d0 w A2 b.length b) :
    Calls Tryz.prog 27 #[.slice A1 a.length c1, .slice A2 b.length c2] w (DepsPost (unionD a b) w) := by
  have hmm := @run_makeMap Tryz.prog
  have H1 := Lib.hid h1
  have H2 := Lib.hid h2
  have WA := Lib.hid wa
  have WB := Lib.hid wb
  clear h1 h2 wa wb
  have ST : Hid (RelU a w 0 [] (.int .i64 0) (w.alloc (.map #[] 0))) := ⟨0, Nat.zero_le _, rfl, DSet.made w, (Below.refl _ _).alloc (Nat.le_refl _) _⟩
  go_enter Tryz.func27, Tryz.ntmps27
  go_wp2_with fail
  clear hmm
  go_loopw [13] (fun i wr => RelU a w 0 [] i wr) (fun i _ => a.length - (RowKit.intOf i).toNat)
  case atStart => exact ST.out
  case round =>
    clear ST
    obtain ⟨k, hk, rfl, hS, bel⟩ := hrel
    have bs := bel.size
    have hlt := hS.lt
    rw [Nat.zero_add, List.nil_append] at hS
    by_cases hkr : k < a.length
    · obtain ⟨bb, off, hA, hbb, hmem, e0, e1, e2⟩ := dep_at (H1.out.below (Nat.le_refl _) bel) k hkr
      have TS := Lib.hid (take_snocG d0 a k hkr)
      have wd : WfDp (a.getD k d0) := WA.out _ hmem
      generalize a.getD k d0 = x at *
      subst hA
      obtain ⟨x0, x1, x2⟩ := x
      simp only at e0 e1 e2
      have HS := Lib.hid hS
      have WD := Lib.hid wd
      have hom := (hS.alloc (.cells #[.int .i64 x0, .int .i64 x1, .int .i64 x2] 69)).2.2
      have hkey := keyDep wd
      unfold encDp at hkey
      simp only at hkey
      have BA := Lib.hid (bel.alloc bs (.cells #[.int .i64 x0, .int .i64 x1, .int .i64 x2] 69))
      clear hmem hS bel wd
      go_wp2_with (at_mapUpdate; refine wpList_put _ rfl _ _ _ 93 rfl 69 4 lawDep Tryz.underlying93 w.heap.size k _ rfl hom ?c1 _ _ _ rfl rfl hkey ?_)
      case c1 => unfold maxLen; omega
      intro w2 hom2 hg2
      have R : Hid (RelU a w 0 [] (.int .i64 ((k + 1 : Nat) : Int)) w2) := by
        refine ⟨k + 1, by omega, rfl, ?_, BA.out.grown hg2 (by simp; omega) (by intro g e; injection e with e; omega)⟩
        rw [Nat.zero_add, List.nil_append, TS.out, setOfD_snoc]
        exact HS.out.put WD.out hom2
      clear hom hom2 hg2 hkey
      go_wp2_with fail
      exact ⟨by simpa using R.out, by simp [RowKit.intOf]; omega⟩
    · obtain rfl : k = a.length := by omega
      rw [List.take_length] at hS
      have ST2 : Hid (RelU b w a.length a (.int .i64 0) wr) := ⟨0, Nat.zero_le _, rfl, by simpa using hS, bel⟩
      clear hS bel bs hlt
      go_wp2_with fail
      go_loopw [22] (fun i wr => RelU b w a.length a i wr) (fun i _ => b.length - (RowKit.intOf i).toNat)
      case atStart => exact ST2.out
      case round =>
        clear ST2
        obtain ⟨k, hk, rfl, hS, bel⟩ := hrel
        have bs := bel.size
        have hlt := hS.lt
        by_cases hkr : k < b.length
        · obtain ⟨bb, off, hA, hbb, hmem, e0, e1, e2⟩ := dep_at (H2.out.below (Nat.le_refl _) bel) k hkr
          have TS := Lib.hid (take_snocG d0 b k hkr)
          have wd : WfDp (b.getD k d0) := WB.out _ hmem
          generalize b.getD k d0 = x at *
          subst hA
          obtain ⟨x0, x1, x2⟩ := x
          simp only at e0 e1 e2
          have HS := Lib.hid hS
          have WD := Lib.hid wd
          have hom := (hS.alloc (.cells #[.int .i64 x0, .int .i64 x1, .int .i64 x2] 69)).2.2
          have hkey := keyDep wd
          unfold encDp at hkey
          simp only at hkey
          have BA := Lib.hid (bel.alloc bs (.cells #[.int .i64 x0, .int .i64 x1, .int .i64 x2] 69))
          clear hmem hS bel wd
          go_wp2_with (at_mapUpdate; refine wpList_put _ rfl _ _ _ 93 rfl 69 4 lawDep Tryz.underlying93 w.heap.size (a.length + k) _ rfl hom ?c1 _ _ _ rfl rfl hkey ?_)
          case c1 => unfold maxLen; omega
          intro w2 hom2 hg2
          have R : Hid (RelU b w a.length a (.int .i64 ((k + 1 : Nat) : Int)) w2) := by
            refine ⟨k + 1, by omega, rfl, ?_, BA.out.grown hg2 (by simp; omega) (by intro g e; injection e with e; omega)⟩
            rw [TS.out, ← List.append_assoc, setOfD_snoc, ← Nat.add_assoc]
            exact HS.out.put WD.out hom2
          clear hom hom2 hg2 hkey
          go_wp2_with fail
          exact ⟨by simpa using R.out, by simp [RowKit.intOf]; omega⟩
        · obtain rfl : k = b.length := by omega
          rw [List.take_length] at hS
          have HS := Lib.hid hS
          have BE := Lib.hid bel
          have hsl : (setOfD (a ++ b)).length ≤ 1000000 := by have := setOfD_len (a ++ b); rw [List.length_append] at this; omega
          clear hS bel
          go_wp2_with fail
          refine (keysD_any _ _).mono ?_
          rintro e w3 ⟨rfl, rfl⟩
          have hcon := Lib.hid (sortedD_any wr.heap.size w.heap.size (a.length + b.length) (setOfD (a ++ b)) (wr.alloc (.cells #[.map (some w.heap.size)] 93)) hsl (by simp) (by simp [go_sem]) (HS.out.alloc _))
          go_wp2_with fail
          refine hcon.out.mono ?_
          rintro e w4 ⟨v, rfl, own, belw⟩
          have F : Hid (DepsPost (unionD a b) w (.returned v) w4) := by
            refine ⟨v, rfl, own_mono own (by simp; omega), BE.out.trans (((Below.refl _ _).alloc bs _).trans (belw.mono (by simp; omega)))⟩
          clear own belw
          go_wp2_with fail
          go_ret
          exact F.out
end Go.Proofs.YtljojgpjgjfddaaGreat
