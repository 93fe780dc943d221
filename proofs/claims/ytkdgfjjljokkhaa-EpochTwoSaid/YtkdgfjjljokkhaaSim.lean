/- The reference's book (a list of the epochs of the frames) and the program's (two counts) agree: the plain step. -/
import Derived.Test.YtkdgfjjljokkhaaRefRemove
namespace Go.Proofs.Ytkdgfjjljokkhaa
open Go.RowKit
set_option linter.unusedVariables false

def Sim (n x y : Int) (L : List Int) : Prop := ∀ e : Int, ((L.count e : Nat) : Int) = alv n x y e

theorem Step.det {k e n x y c n' x' y' c2 n2 x2 y2 : Int} (s : Step k e n x y c n' x' y') (t : Step k e n x y c2 n2 x2 y2) : c = c2 ∧ n' = n2 ∧ x' = x2 ∧ y' = y2 := by
  rcases s with ⟨a, b, rfl, rfl, rfl, rfl⟩ | ⟨a, b, rfl, rfl, rfl, rfl⟩ | ⟨a, b, rfl, rfl, rfl, rfl⟩ | ⟨a, b, rfl, rfl, rfl, rfl⟩ | ⟨a, b, rfl, rfl, rfl, rfl⟩ | ⟨a, b, rfl, rfl, rfl, rfl⟩ | ⟨a, b, rfl, rfl, rfl, rfl⟩ | ⟨a, b, rfl, rfl, rfl, rfl⟩ | ⟨a, b, rfl, rfl, rfl, rfl⟩ <;>
  rcases t with ⟨p, q, rfl, rfl, rfl, rfl⟩ | ⟨p, q, rfl, rfl, rfl, rfl⟩ | ⟨p, q, rfl, rfl, rfl, rfl⟩ | ⟨p, q, rfl, rfl, rfl, rfl⟩ | ⟨p, q, rfl, rfl, rfl, rfl⟩ | ⟨p, q, rfl, rfl, rfl, rfl⟩ | ⟨p, q, rfl, rfl, rfl, rfl⟩ | ⟨p, q, rfl, rfl, rfl, rfl⟩ | ⟨p, q, rfl, rfl, rfl, rfl⟩ <;>
  first | exact ⟨rfl, rfl, rfl, rfl⟩ | omega

theorem do_det (m : Nat) (k e n x y c n' x' y' : Int) (g : Nat) (w : World) (h : Bk w g n x y) (hi : Inv m n x y) (hm : m ≤ 1000000) (s : Step k e n x y c n' x' y') :
    Calls Try.prog 16 #[.pointer (some ⟨g, 0, none⟩), .agg #[.int .i64 k, .int .i64 e]] w fun r w' => r = .returned (.int .i64 c) ∧ Bk w' g n' x' y' ∧ w.grownBy w' (some g) :=
  (do_any m k e n x y g w h hi hm).mono fun r w' ⟨c2, n2, x2, y2, hr, st, hb, hg⟩ => by
    obtain ⟨rfl, rfl, rfl, rfl⟩ := s.det st
    exact ⟨hr, hb, hg⟩

theorem sim_start : Sim 0 0 0 [] := by
  intro e
  have := alv_cases 0 0 0 e
  simp only [List.count_nil]
  omega

theorem sim_put {m : Nat} {n x y : Int} {L : List Int} (h : Inv m n x y) (s : Sim n x y L) : Sim n (upX n x 1) (upY n y 1) (L ++ [n]) := by
  intro e
  rw [List.count_append]
  have hs := s e
  obtain ⟨a, b, c, d, e', f, g⟩ := h
  have h1 := alv_cases n x y e
  have hc : [n].count e = if n = e then 1 else 0 := by
    by_cases he : n = e
    · simp [he]
    · simp [he]
  rw [hc]
  rcases up_cases n x y 1 with ⟨p, q, r⟩ | ⟨p, q, r⟩ <;> rw [q, r]
  · have h2 := alv_cases n (x + 1) y e
    by_cases he : n = e
    · subst he; rw [if_pos rfl]; omega
    · rw [if_neg he]; omega
  · have h2 := alv_cases n x (y + 1) e
    by_cases he : n = e
    · subst he; rw [if_pos rfl]; omega
    · rw [if_neg he]; omega

theorem sim_next {m : Nat} {n x y : Int} {L : List Int} (h : Inv m n x y) (s : Sim n x y L) (hz : alv n x y (n - 1) = 0) : Sim (n + 1) x y L := by
  intro e
  rw [s e]
  obtain ⟨a, b, c, d, e', f, g⟩ := h
  have h1 := alv_cases n x y e
  have h2 := alv_cases (n + 1) x y e
  have h3 := alv_cases n x y (n - 1)
  omega

theorem count_cut (L : List Int) (k : Nat) (hk : k < L.length) (e : Int) : L.count e = (cut L k).count e + if L.getD k 0 = e then 1 else 0 := by
  have h1 : L = L.take k ++ (L.getD k 0 :: L.drop (k + 1)) := by
    have h2 : L.getD k 0 = L[k] := by simp [List.getD, hk]
    rw [h2, List.getElem_cons_drop, List.take_append_drop]
  conv => lhs; rw [h1]
  unfold cut
  rw [List.count_append, List.count_append, List.count_cons]
  generalize L.getD k 0 = q
  by_cases he : q = e
  · subst he; simp; omega
  · simp [he]

theorem sim_take {m : Nat} {n x y e0 : Int} {L : List Int} {k : Nat} (h : Inv m n x y) (s : Sim n x y L) (hk : k < L.length) (hat : L.getD k 0 = e0) (h0 : 0 ≤ e0) (h1 : e0 ≤ n) (h2 : n - 1 ≤ e0) :
    Sim n (upX e0 x (-1)) (upY e0 y (-1)) (cut L k) := by
  intro e
  have hs := s e
  have hc := count_cut L k hk e
  rw [hat] at hc
  obtain ⟨a, b, c, d, e', f, g⟩ := h
  have k1 := alv_cases n x y e
  rcases up_cases e0 x y (-1) with ⟨p, q, r⟩ | ⟨p, q, r⟩ <;> rw [q, r]
  · have k2 := alv_cases n (x + -1) y e
    by_cases he : e0 = e
    · subst he; rw [if_pos rfl] at hc; omega
    · rw [if_neg he] at hc; omega
  · have k2 := alv_cases n x (y + -1) e
    by_cases he : e0 = e
    · subst he; rw [if_pos rfl] at hc; omega
    · rw [if_neg he] at hc; omega

theorem first_at (L : List Int) (e : Int) (h : e ∈ L) : ∃ k, k < L.length ∧ L.getD k 0 = e ∧ ∀ j, j < k → L.getD j 0 ≠ e := by
  induction L with
  | nil => simp at h
  | cons a l ih =>
    by_cases ha : a = e
    · exact ⟨0, by simp, by simp [ha], fun j hj => absurd hj (by omega)⟩
    · have hl : e ∈ l := by
        rcases List.mem_cons.1 h with h | h
        · exact absurd h.symm ha
        · exact h
      obtain ⟨k, hk, hat, hb⟩ := ih hl
      refine ⟨k + 1, by simp; omega, by simpa using hat, fun j hj => ?_⟩
      cases j with
      | zero => simpa using ha
      | succ j => simpa using hb j (by omega)

/-- What the reference does at an act, and that the program's step is the same. -/
def ActCase (k e n x y : Int) (L : List Int) (c n' x' y' : Int) (L' : List Int) : Prop :=
  Step k e n x y c n' x' y' ∧ Sim n' x' y' L' ∧
  ((k = 0 ∧ (e < n ∨ n < e) ∧ c = (if e < n then 17 else 2) ∧ n' = n ∧ L' = L) ∨
   (k = 0 ∧ e = n ∧ c = 0 ∧ n' = n ∧ L' = L ++ [n]) ∨
   (k = 1 ∧ (e < 0 ∨ n < e) ∧ c = 2 ∧ n' = n ∧ L' = L) ∨
   (k = 1 ∧ (0 ≤ e ∧ e ≤ n ∧ e ∉ L) ∧ c = 7 ∧ n' = n ∧ L' = L) ∨
   (k = 1 ∧ (0 ≤ e ∧ e ≤ n ∧ ∃ j, j < L.length ∧ L.getD j 0 = e ∧ (∀ i, i < j → L.getD i 0 ≠ e) ∧ L' = cut L j) ∧ c = 0 ∧ n' = n) ∨
   ((k ≠ 0 ∧ k ≠ 1) ∧ 0 < L.count (n - 1) ∧ c = 6 ∧ n' = n ∧ L' = L) ∨
   ((k ≠ 0 ∧ k ≠ 1) ∧ L.count (n - 1) = 0 ∧ c = 0 ∧ n' = n + 1 ∧ L' = L))

theorem act_case {m : Nat} (k e n x y : Int) (L : List Int) (h : Inv m n x y) (hm : m ≤ 1000000) (s : Sim n x y L) : ∃ c n' x' y' L', ActCase k e n x y L c n' x' y' L' := by
  have hn := h.n1
  by_cases hk0 : k = 0
  · by_cases he : e < n
    · exact ⟨17, n, x, y, L, .stale hk0 he, s, .inl ⟨hk0, .inl he, by rw [if_pos he], rfl, rfl⟩⟩
    by_cases he2 : n < e
    · exact ⟨2, n, x, y, L, .far hk0 he2, s, .inl ⟨hk0, .inr he2, by rw [if_neg he], rfl, rfl⟩⟩
    obtain rfl : e = n := by omega
    exact ⟨0, e, _, _, L ++ [e], .put hk0 rfl, sim_put h s, .inr (.inl ⟨hk0, rfl, rfl, rfl, rfl⟩)⟩
  by_cases hk1 : k = 1
  · by_cases he : e < 0 ∨ n < e
    · exact ⟨2, n, x, y, L, .out hk1 he, s, .inr (.inr (.inl ⟨hk1, he, rfl, rfl, rfl⟩))⟩
    have he0 : 0 ≤ e := by omega
    have he1 : e ≤ n := by omega
    have hc := s e
    by_cases hin : e ∈ L
    · obtain ⟨j, hj, hat, hb⟩ := first_at L e hin
      have hp : 0 < L.count e := List.count_pos_iff.2 hin
      have ha := alv_cases n x y e
      exact ⟨0, n, _, _, cut L j, .take hk1 he0 he1 (by omega) (by omega), sim_take h s hj hat he0 he1 (by omega), .inr (.inr (.inr (.inr (.inl ⟨hk1, ⟨he0, he1, j, hj, hat, hb, rfl⟩, rfl, rfl⟩))))⟩
    · have hp : L.count e = 0 := List.count_eq_zero.2 hin
      exact ⟨7, n, x, y, L, .lack hk1 he0 he1 (by omega), s, .inr (.inr (.inr (.inl ⟨hk1, ⟨he0, he1, hin⟩, rfl, rfl, rfl⟩)))⟩
  have hc := s (n - 1)
  by_cases hp : L.count (n - 1) = 0
  · exact ⟨0, n + 1, x, y, L, .next ⟨hk0, hk1⟩ (by omega) (by omega), sim_next h s (by omega), .inr (.inr (.inr (.inr (.inr (.inr ⟨⟨hk0, hk1⟩, hp, rfl, rfl, rfl⟩)))))⟩
  · exact ⟨6, n, x, y, L, .held ⟨hk0, hk1⟩ (by omega), s, .inr (.inr (.inr (.inr (.inr (.inl ⟨⟨hk0, hk1⟩, by omega, rfl, rfl, rfl⟩)))))⟩

theorem ActCase.length {k e n x y : Int} {L : List Int} {c n' x' y' : Int} {L' : List Int} (h : ActCase k e n x y L c n' x' y' L') : L'.length ≤ L.length + 1 := by
  obtain ⟨_, _, h⟩ := h
  rcases h with ⟨-, -, -, -, rfl⟩ | ⟨-, -, -, -, rfl⟩ | ⟨-, -, -, -, rfl⟩ | ⟨-, -, -, -, rfl⟩ | ⟨-, ⟨-, -, j, hj, -, -, rfl⟩, -, -⟩ | ⟨-, -, -, -, rfl⟩ | ⟨-, -, -, -, rfl⟩
  case inr.inl => simp
  case inr.inr.inr.inr.inl => rw [cut_length L j hj]; omega
  all_goals omega

/-- Count at a list that agrees with the counts. -/
theorem rcount_sim {n x y : Int} {L : List Int} (s : Sim n x y L) (n0 e : Int) (A : Option Addr) (cap : Nat) (w : World) (hl : L.length ≤ 1000000) (h : IsList w A L.length L) :
    Calls Try.prog 19 #[.agg #[.int .i64 n0, .slice A L.length cap], .int .i64 e] w fun r w' => r = .returned (.int .i64 (alv n x y e)) ∧ w.alloc (.cells #[.int .i64 n0, .slice A L.length cap] 28) = w' := by
  refine (rcount_any n0 e A L.length cap L w hl h).mono fun r w' ⟨hr, hw⟩ => ?_
  rw [s e] at hr
  exact ⟨hr, hw⟩
end Go.Proofs.Ytkdgfjjljokkhaa
