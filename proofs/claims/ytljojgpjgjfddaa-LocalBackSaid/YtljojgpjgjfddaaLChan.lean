/- The contract of local.channelsAt. -/
import Derived.Test.YtljojgpjgjfddaaLSmall
namespace Go.Proofs.Ytljojgpjgjfddaa
open Go.RowKit Go.Maps
set_option linter.unusedVariables false

/-- The cell of an int. -/
def cI (n : Int) : List Value := [.int .i64 n]
theorem cI_length (n : Int) : (cI n).length = 1 := rfl
theorem cI_one (l : List Int) : ∀ u ∈ l.flatMap cI, u.oneCell' = true := by
  intro u hu
  rw [List.mem_flatMap] at hu
  obtain ⟨d, _, hd⟩ := hu
  simp only [cI, List.mem_cons, List.not_mem_nil, or_false] at hd
  subst hd; rfl
theorem cI_map (l : List Int) : l.flatMap cI = l.map (Value.int .i64) := by
  induction l with
  | nil => rfl
  | cons x l ih => rw [List.flatMap_cons, ih]; rfl
theorem infoInt : (Try.prog.info? 3).map (fun i => (i.zero, i.size, i.bytes)) = some (some (.int .i64 0), 1, 8) := by kernel_rfl

/-- A new slice with the ints l is returned; nothing old has changed. -/
def IntsPost (l : List Int) (w : World) (e : Ending) (w' : World) : Prop :=
  ∃ v, e = .returned v ∧ w'.ownsRow w.heap.size 3 1 v l.length (l.flatMap cI) ∧ Below w.heap.size w w'

theorem chTo_succ (cs : List Cb) (node : Int) (k : Nat) : chTo cs node (k + 1) = chTo cs node k ++ (if atB (cs.getD k cb0) node then [2 * (k : Int), 2 * (k : Int) + 1] else []) := by
  unfold chTo; rw [List.range_succ, List.flatMap_append]; simp
theorem chTo_length (cs : List Cb) (node : Int) (k : Nat) : (chTo cs node k).length ≤ 2 * k := by
  induction k with
  | zero => simp [chTo]
  | succ k ih => rw [chTo_succ, List.length_append]; split <;> simp <;> omega

def RelCh (cs : List Cb) (node : Int) (w : World) (v i : Value) (wr : World) : Prop :=
  ∃ k : Nat, k ≤ cs.length ∧ i = .int .i64 k ∧ wr.ownsRow w.heap.size 3 1 v (chTo cs node k).length ((chTo cs node k).flatMap cI) ∧ Below w.heap.size w wr

set_option maxRecDepth 100000 in
set_option maxHeartbeats 1000000 in
theorem chansat_any (cs : List Cb) (An Ac : Option Addr) (ln cn cc : Nat) (node : Int) (w : World) (hl : cs.length ≤ 1000000) (h : IsRec 6 cC cb0 w Ac cs.length cs) :
    Calls Try.prog 45 #[.agg #[.slice An ln cn, .slice Ac cs.length cc], .int .i64 node] w (IntsPost (chansAt cs node) w) := by
  have H := Lib.hid h
  clear h
  obtain ⟨i0, hi0, hz0, hz1, hz2⟩ := info_parts infoInt
  go_enter Try.func45, Try.ntmps45
  go_wp2_with fail
  go_loopw [5, 11] (fun v i wr => RelCh cs node w v i wr) (fun _ i _ => cs.length - (intOf i).toNat)
  case atStart => exact ⟨0, Nat.zero_le _, rfl, World.ownsRow_nil _ _ _ _, (Below.refl _ _).alloc (Nat.le_refl _) _⟩
  case round =>
    obtain ⟨k, hk, rfl, own, bel⟩ := hrel
    have hkl := chTo_length cs node k
    have bs := bel.size
    by_cases hkr : k < cs.length
    · obtain ⟨bb, off, ha, hbb, hmem, c0, c1, c2, c3, c4, c5⟩ := cable_at (H.out.below (Nat.le_refl _) bel) k hkr
      have CS := Lib.hid (chTo_succ cs node k)
      generalize cs.getD k cb0 = x at *
      subst ha
      obtain ⟨xa, xap, xb, xbp, xdl, xcp⟩ := x
      simp only at c0 c1 c2 c3 c4 c5
      have OG : Hid (∀ g, u5.ownBlock = some g → w.heap.size ≤ g) := fun g e => (own.lt g e).1
      clear hmem
      by_cases hat : xa = node ∨ xb = node
      · have KY : Hid (chTo cs node (k + 1) = chTo cs node k ++ [2 * (k : Int), 2 * (k : Int) + 1]) := by
          rw [Hid, CS.out, if_pos (by simpa [atB] using hat)]
        clear CS
        generalize chTo cs node k = xs at *
        have step : ∀ (q1 : (xa == node) = true ∨ ((xa == node) = false ∧ (xb == node) = true)), True := fun _ => trivial
        rcases (by
          by_cases e : xa = node
          · exact .inl (by simp [e])
          · exact .inr ⟨by simp [e], by simpa [e] using hat⟩ : ((xa == node) = true) ∨ ((xa == node) = false ∧ (xb == node) = true)) with q1 | ⟨q1, q2⟩
        all_goals
          clear hat step
          go_wp2_with (at_builtin; refine wpList_append_own _ rfl _ _ 35 rfl w.heap.size 3 i0 _ 1 8 Try.underlying35 hi0 hz0 hz1 hz2 rfl (by decide) _ _ _ rfl ((own.alloc _).alloc _) ⟨wr.heap.size + 1, 0, none⟩ 2 2 [.int .i64 (2 * (k : Int)), .int .i64 (2 * (k : Int) + 1)] rfl rfl ?e1 ?e2 ?e3 ?e4 ?e5 ?_)
          case e1 => exact World.news_of_block (cs := #[.int .i64 (2 * (k : Int)), .int .i64 (2 * (k : Int) + 1)]) (t := 3) (fr := (0, 0)) (by have h := heap_alloc_new (wr.alloc (.cells #[.int .i64 xa, .int .i64 xap, .int .i64 xb, .int .i64 xbp, .int .i64 xdl, .int .i64 xcp] 73)) (.cells #[.int .i64 (2 * (k : Int)), .int .i64 (2 * (k : Int) + 1)] 3); simpa using h)
          case e2 => intro u hu; simp at hu; rcases hu with rfl | rfl <;> rfl
          case e3 => unfold maxLen; omega
          case e4 => omega
          case e5 => simp; omega
          intro v' w4 own4 gr4 _
          have R : RelCh cs node w v' (.int .i64 ((k + 1 : Nat) : Int)) w4 := by
            refine ⟨k + 1, by omega, rfl, ?_, ?_⟩
            · rw [KY.out, List.length_append, List.flatMap_append]; exact own4
            · exact ((bel.alloc bs _).alloc (by simp; omega) _).grown gr4 (by simp; omega) OG.out
          clear own4 gr4 own
          go_wp2
          exact ⟨by simpa using R, by simp [intOf]; omega⟩
      · have KY : Hid (chTo cs node (k + 1) = chTo cs node k) := by
          rw [Hid, CS.out, if_neg (by simpa [atB] using hat)]; simp
        have q1 : (xa == node) = false := by rw [beq_eq_false_iff_ne]; exact fun e => hat (.inl e)
        have q2 : (xb == node) = false := by rw [beq_eq_false_iff_ne]; exact fun e => hat (.inr e)
        have R : Hid (RelCh cs node w u5 (.int .i64 ((k + 1 : Nat) : Int)) (wr.alloc (.cells #[.int .i64 xa, .int .i64 xap, .int .i64 xb, .int .i64 xbp, .int .i64 xdl, .int .i64 xcp] 73))) :=
          ⟨k + 1, by omega, rfl, by rw [KY.out]; exact own.alloc _, bel.alloc bs _⟩
        clear CS hat own
        go_wp2_with fail
        exact ⟨by simpa using R.out, by simp [intOf]; omega⟩
    · obtain rfl : k = cs.length := by omega
      have F : Hid (IntsPost (chansAt cs node) w (.returned u5) wr) := ⟨u5, rfl, own, bel⟩
      clear own
      go_wp2_with fail
      go_ret
      exact F.out
end Go.Proofs.Ytljojgpjgjfddaa
