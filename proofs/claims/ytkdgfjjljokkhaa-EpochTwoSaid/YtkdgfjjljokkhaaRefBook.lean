/- The contracts of the reference's book: Count, Inject, Remove, Advance. -/
import Derived.Test.YtkdgfjjljokkhaaDoStep
import Derived.Test.YtkdgfjjljokkhaaWords
import Derived.Deep.RegionHeld3
import Derived.KernelRfl
namespace Go.Proofs.Ytkdgfjjljokkhaa
open Go.RowKit
set_option linter.unusedVariables false

/-- The slice (a, len) reads as the ints L. -/
def IsList (w : World) (a : Option Addr) (len : Nat) (L : List Int) : Prop :=
  L.length = len ∧ (0 < len → ∃ b off, a = some ⟨b, off, none⟩ ∧ b < w.heap.size ∧ ∀ i, i < len → w.cell? ⟨b, off + i, none⟩ = some (.int .i64 (L.getD i 0)))
theorem IsList.below {w w' : World} {B len : Nat} {a : Option Addr} {L : List Int} (h : IsList w a len L) (hB : w.heap.size ≤ B) (hb : Below B w w') : IsList w' a len L := by
  refine ⟨h.1, fun h0 => ?_⟩
  obtain ⟨b, off, e, hlt, hc⟩ := h.2 h0
  refine ⟨b, off, e, by have := hb.size; omega, fun i hi => ?_⟩
  rw [hb.cell (p := ⟨b, off + i, none⟩) (by show b < B; omega)]; exact hc i hi
theorem IsList.nil (w : World) : IsList w none 0 [] := ⟨rfl, fun h => absurd h (by omega)⟩
theorem reads_of_list {w : World} {a : Option Addr} {len : Nat} {L : List Int} (h : IsList w a len L) : Reads w w.heap.size 1 a len (L.map (Value.int .i64)) := by
  refine ⟨by rw [List.length_map, h.1]; omega, fun h0 => ?_⟩
  obtain ⟨b, off, ha, hb, hc⟩ := h.2 h0
  refine ⟨_, ha, hb, fun j u hu => ?_⟩
  rw [List.getElem?_map] at hu
  cases hj : L[j]? with
  | none => rw [hj] at hu; cases hu
  | some x =>
    rw [hj] at hu
    injection hu with hu
    have hlt : j < L.length := (List.getElem?_eq_some_iff.1 hj).1
    have e : (⟨b, off, none⟩ : Addr).add j = ⟨b, off + j, none⟩ := by unfold Addr.add; split <;> simp_all
    rw [e, hc j (by rw [← h.1]; exact hlt), ← hu]
    simp [List.getD, hj]
theorem list_of_own {w : World} {base e n : Nat} {v : Value} {L : List Int} (h : w.ownsRow base e 1 v n (L.map (Value.int .i64))) : ∃ a cap, v = .slice a n cap ∧ n ≤ cap ∧ IsList w a n L ∧ ∀ x, a = some x → base ≤ x.block := by
  have hl : L.length = n := by have := h.1; rw [List.length_map] at this; omega
  rcases h.2 with ⟨rfl, hn⟩ | ⟨g, cap, cur, rfl, hb, hg, hnc, _⟩
  · subst hn
    have : L = [] := List.eq_nil_of_length_eq_zero hl
    subst this
    exact ⟨none, 0, rfl, Nat.le_refl _, ⟨rfl, fun h => absurd h (by omega)⟩, by simp⟩
  · refine ⟨_, cap, rfl, hnc, ⟨hl, fun h0 => ⟨g, 0, rfl, (Array.getElem?_eq_some_iff.1 hg).1, fun i hi => ?_⟩⟩, by intro x e; injection e with e; subst e; exact hb⟩
    have hc := h.cells (g := g) rfl
    have e : ∀ j, (⟨g, 0, none⟩ : Addr).add j = ⟨g, 0 + j, none⟩ := fun j => by unfold Addr.add; split <;> simp_all
    have hli : i < L.length := by omega
    have h1 := hc i (.int .i64 (L.getD i 0)) (by rw [List.getElem?_map]; simp [List.getD, hli])
    rw [e] at h1
    exact h1
theorem IsList.setCell {w : World} {a : Option Addr} {len : Nat} {L : List Int} (h : IsList w a len L) {p : Addr} (hp : ∀ x, a = some x → p.block < x.block) (u : Value) : IsList (w.setCell p u) a len L := by
  refine ⟨h.1, fun h0 => ?_⟩
  obtain ⟨b, off, e, hlt, hc⟩ := h.2 h0
  have := hp _ e
  refine ⟨b, off, e, by simpa [World.setCell] using hlt, fun i hi => ?_⟩
  rw [World.cell?_setCell_other w p ⟨b, off + i, none⟩ u (fun e => by subst e; simp at this)]
  exact hc i hi
theorem ints_one (L : List Int) : ∀ u ∈ L.map (Value.int .i64), u.oneCell' = true := by
  intro u hu
  obtain ⟨x, _, rfl⟩ := List.mem_map.1 hu
  rfl

theorem count_snoc (L : List Int) (k : Nat) (e : Int) (h : k < L.length) : (L.take (k + 1)).count e = (L.take k).count e + if L.getD k 0 = e then 1 else 0 := by
  rw [List.take_succ_eq_append_getElem h, List.count_append]
  have : L.getD k 0 = L[k] := by simp [List.getD, h]
  rw [this]
  by_cases he : L[k] = e
  · simp [he]
  · simp [he]
theorem count_le' (L : List Int) (k : Nat) (e : Int) : (L.take k).count e ≤ k := by
  have := List.count_le_length (a := e) (l := L.take k)
  rw [List.length_take] at this
  omega

def rbC (n : Int) (A : Option Addr) (len cap : Nat) : Array Value := #[.int .i64 n, .slice A len cap]

set_option maxHeartbeats 1000000 in
theorem rcount_any (n e : Int) (A : Option Addr) (len cap : Nat) (L : List Int) (w : World) (hl : len ≤ 1000000) (h : IsList w A len L) :
    Calls Try.prog 19 #[.agg #[.int .i64 n, .slice A len cap], .int .i64 e] w fun r w' => r = .returned (.int .i64 (L.count e : Nat)) ∧ w.alloc (.cells (rbC n A len cap) 28) = w' := by
  have H := Lib.hid h
  have HL := Lib.hid h.1
  clear h
  have hc1 : (w.alloc (.cells #[.int .i64 n, .slice A len cap] 28)).cell? ⟨w.heap.size, 0 + 1, none⟩ = some (.slice A len cap) := (Blk.new w 28 #[.int .i64 n, .slice A len cap]).cell 1
  go_enter Try.func19, Try.ntmps19
  go_wp2
  go_loop [5, 6] (fun c i => ∃ k : Nat, k ≤ len ∧ i = .int .i64 k ∧ c = .int .i64 ((L.take k).count e : Nat)) (fun _ i => len - (intOf i).toNat)
  case atStart => exact ⟨0, Nat.zero_le _, rfl, rfl⟩
  case round =>
    obtain ⟨k, hk, rfl, rfl⟩ := hrel
    have cl := count_le' L k e
    by_cases hlt : k < len
    · obtain ⟨b, off, hA, hb, hc⟩ := H.out.2 (by omega)
      have hck : (w.alloc (.cells #[.int .i64 n, .slice A len cap] 28)).cell? ⟨b, off + k, none⟩ = some (.int .i64 (L.getD k 0)) := (World.cell?_alloc_lt w _ ⟨b, off + k, none⟩ hb).trans (hc k hlt)
      have CS := Lib.hid (count_snoc L k e (by rw [HL.out]; exact hlt))
      generalize (L.take k).count e = c at *
      generalize L.getD k 0 = x at *
      subst hA
      clear hc H
      by_cases hx : x = e
      · subst hx
        have hxx : (x == x) = true := by simp
        go_wp2
        go_round
        case rel => exact ⟨k + 1, by omega, by go_num, by rw [CS.out, if_pos rfl]; go_num⟩
        case measure => simp [intOf]; omega
      · have hxx : (x == e) = false := by simpa using hx
        have CS2 : Hid ((L.take (k + 1)).count e = c) := by have h := CS.out; rw [if_neg hx] at h; exact h
        clear CS hx
        go_wp2
        go_round
        case rel => exact ⟨k + 1, by omega, by go_num, by rw [CS2.out]⟩
        case measure => simp [intOf]; omega
    · go_wp2
      go_ret
      refine ⟨?_, rfl⟩
      have : k = len := by omega
      rw [List.take_of_length_le (by have := HL.out; omega)]
      rfl

/-- What the reference hands back: a book (n, L) and an error number. -/
def RPost (A0 : Option Addr) (n : Int) (L : List Int) (c : Int) (w : World) (r : Ending) (w' : World) : Prop :=
  ∃ A cap, r = .returned (.tuple #[.agg #[.int .i64 n, .slice A L.length cap], .int .i64 c]) ∧ L.length ≤ cap ∧ IsList w' A L.length L ∧ (A = A0 ∨ ∀ x, A = some x → w.heap.size ≤ x.block) ∧ Below w.heap.size w w'

theorem infoInt : (Try.prog.info? 3).map (fun i => (i.zero, i.size, i.bytes)) = some (some (.int .i64 0), 1, 8) := by kernel_rfl

theorem below2 (w : World) (o1 o2 : Obj) : Below w.heap.size w ((w.alloc o1).alloc o2) := ((Below.refl _ _).alloc (Nat.le_refl _) _).alloc (by simp) _

theorem rinject_err (n e : Int) (A : Option Addr) (cap : Nat) (L : List Int) (w : World) (h : IsList w A L.length L) (hcap : L.length ≤ cap) (he : e < n ∨ n < e) :
    Calls Try.prog 13 #[.agg #[.int .i64 n, .slice A L.length cap], .int .i64 e] w (RPost A n L (if e < n then 17 else 2) w) := by
  have H := Lib.hid h
  clear h
  rcases he with he | he
  · rw [if_pos he]
    go_enter Try.func13, Try.ntmps13
    go_wp2
    exact bodyPost_ret (v := .tuple #[.agg #[.int .i64 n, .slice A L.length cap], .int .i64 17]) (by simp [results, Try.results13, go_sem]) rfl ⟨A, cap, rfl, hcap, H.out.below (Nat.le_refl _) (below2 _ _ _), .inl rfl, below2 _ _ _⟩
  · rw [if_neg (by omega)]
    go_enter Try.func13, Try.ntmps13
    go_wp2
    exact bodyPost_ret (v := .tuple #[.agg #[.int .i64 n, .slice A L.length cap], .int .i64 2]) (by simp [results, Try.results13, go_sem]) rfl ⟨A, cap, rfl, hcap, H.out.below (Nat.le_refl _) (below2 _ _ _), .inl rfl, below2 _ _ _⟩

theorem own_emptyI (w : World) (e size : Nat) : (w.alloc (.cells #[] e)).ownsRow w.heap.size e size (.slice (some ⟨w.heap.size, 0, none⟩) 0 0) 0 [] := by
  refine ⟨by simp, .inr ⟨w.heap.size, 0, #[], rfl, Nat.le_refl _, heap_alloc_new w _, ?_⟩⟩
  simp

/-- The two blocks that such a function lays first: its argument's and its result's. -/
def W2 (n : Int) (A : Option Addr) (len cap : Nat) (w : World) : World := (w.alloc (.cells #[.int .i64 n, .slice A len cap] 28)).alloc (.cells #[.int .i64 0, .slice none 0 0] 28)
theorem W2_size (n : Int) (A : Option Addr) (len cap : Nat) (w : World) : (W2 n A len cap w).heap.size = w.heap.size + 1 + 1 := by simp [W2]
theorem W2_arg (n : Int) (A : Option Addr) (len cap : Nat) (w : World) : Blk (W2 n A len cap w) w.heap.size 28 #[.int .i64 n, .slice A len cap] := (Blk.new _ _ _).alloc _
theorem W2_res (n : Int) (A : Option Addr) (len cap : Nat) (w : World) : Blk (W2 n A len cap w) (w.heap.size + 1) 28 #[.int .i64 0, .slice none 0 0] := by
  have h := Blk.new (w.alloc (.cells #[.int .i64 n, .slice A len cap] 28)) 28 #[.int .i64 0, .slice none 0 0]
  have e : (w.alloc (.cells #[.int .i64 n, .slice A len cap] 28)).heap.size = w.heap.size + 1 := by simp
  rw [e] at h; exact h
theorem W2_below (n : Int) (A : Option Addr) (len cap : Nat) (w : World) : Below w.heap.size w (W2 n A len cap w) := below2 _ _ _

set_option maxRecDepth 100000 in
set_option maxHeartbeats 1000000 in
theorem rinject_ok (n : Int) (A : Option Addr) (cap : Nat) (L : List Int) (w : World) (h : IsList w A L.length L) (hl : L.length ≤ 1000000) :
    Calls Try.prog 13 #[.agg #[.int .i64 n, .slice A L.length cap], .int .i64 n] w (RPost A n (L ++ [n]) 0 w) := by
  obtain ⟨i0, hi0, hz0, hz1, hz2⟩ := info_parts infoInt
  have ownE : ((W2 n A L.length cap w).alloc (.cells #[] 3)).ownsRow (w.heap.size + 1 + 1) 3 1 (.slice (some ⟨w.heap.size + 1 + 1, 0, none⟩) 0 0) 0 [] := by
    have h := own_emptyI (W2 n A L.length cap w) 3 1
    rw [W2_size] at h; exact h
  have sE : ((W2 n A L.length cap w).alloc (.cells #[] 3)).heap.size = w.heap.size + 1 + 1 + 1 := by simp [W2_size]
  have belE : Below w.heap.size w ((W2 n A L.length cap w).alloc (.cells #[] 3)) := (W2_below n A L.length cap w).alloc (by rw [W2_size]; omega) _
  have RE := Lib.hid (reads_of_list (h.below (Nat.le_refl _) belE))
  have BA := Lib.hid ((W2_arg n A L.length cap w).alloc (.cells #[] 3))
  have BR := Lib.hid ((W2_res n A L.length cap w).alloc (.cells #[] 3))
  have OE := Lib.hid ownE
  have SE := Lib.hid sE
  have ones := Lib.hid (ints_one L)
  clear h ownE sE
  generalize hm : L.length = m at *
  have HM := Lib.hid hm
  clear hm
  go_enter Try.func13, Try.ntmps13
  go_wp2_with (at_builtin; refine wpList_append_any _ rfl (.tmp 16) (.tmp 18) 26 rfl (w.heap.size + 1 + 1) 3 i0 _ 1 8 Try.underlying26 hi0 hz0 hz1 hz2 rfl (by decide) _ 0 [] rfl OE.out _ A m cap (L.map (Value.int .i64)) rfl RE.out ones.out ?c3 ?c4 ?c5 ?_)
  case c3 => unfold maxLen; omega
  case c4 => omega
  case c5 => show _ ≤ ((W2 n A m cap w).alloc (.cells #[] 3)).heap.size; rw [SE.out]; omega
  intro v1 w1 own1 gr1 _
  try simp only [Nat.zero_add, List.nil_append] at own1
  have gr1' : ((W2 n A m cap w).alloc (.cells #[] 3)).grownBy w1 (some (w.heap.size + 1 + 1)) := gr1
  have bel1 : Below w.heap.size w w1 := belE.grown gr1' (by rw [SE.out]; omega) (by intro g e; injection e with e; omega)
  have ba1 := Blk.grown BA.out gr1' (by simp; omega)
  have br1 := Blk.grown BR.out gr1' (by simp)
  have og1 : Hid (∀ g, v1.ownBlock = some g → w.heap.size + 1 + 1 ≤ g) := fun g e => (own1.lt g e).1
  have s1 : w.heap.size + 1 + 1 + 1 ≤ w1.heap.size := by have := gr1'.size; have := SE.out; omega
  clear gr1 gr1' RE BA BR OE SE belE ones
  go_wp2_with (at_builtin; refine wpList_append_own _ rfl (.tmp 19) (.tmp 21) 26 rfl (w.heap.size + 1 + 1) 3 i0 _ 1 8 Try.underlying26 hi0 hz0 hz1 hz2 rfl (by decide) _ _ _ rfl (own1.alloc _) ⟨w1.heap.size, 0, none⟩ 1 1 [.int .i64 n] rfl rfl ?d1 ?d2 ?d3 ?d4 ?d5 ?_)
  case d1 => exact cell_one_new _ _ _
  case d2 => intro u hu; simp at hu; subst hu; rfl
  case d3 => unfold maxLen; omega
  case d4 => omega
  case d5 => simp; omega
  intro v2 w2 own2 gr2 _
  have bel2 : Below w.heap.size w w2 := (bel1.alloc (by omega) _).grown gr2 (by simp; omega) (by intro g e; have := og1.out g e; omega)
  have nA : some w.heap.size ≠ v1.ownBlock := by intro e; have := og1.out _ e.symm; omega
  have nR : some (w.heap.size + 1) ≠ v1.ownBlock := by intro e; have := og1.out _ e.symm; omega
  have ba2 := Blk.grown (Blk.alloc ba1 (.cells #[.int .i64 n] 3)) gr2 nA
  have br2 := Blk.grown (Blk.alloc br1 (.cells #[.int .i64 n] 3)) gr2 nR
  have ll : (L.map (Value.int .i64)) ++ [.int .i64 n] = (L ++ [n]).map (Value.int .i64) := by simp
  rw [ll] at own2
  obtain ⟨a3, cap3, hv3, hcp3, hd3, ha3⟩ := list_of_own own2
  have A3 := Lib.hid ha3
  clear ha3
  rw [hv3]
  have D3 := Lib.hid hd3
  clear own2 gr2 own1 bel1 ba1 br1 og1 hd3 hv3 ll nA nR
  have x0 : w2.cell? ⟨w.heap.size, 0, none⟩ = some (.int .i64 n) := ba2.cell 0
  have x1 : w2.cell? ⟨w.heap.size, 0 + 1, none⟩ = some (.slice A m cap) := ba2.cell 1
  have y0 : w2.cell? ⟨w.heap.size + 1, 0, none⟩ = some (.int .i64 0) := br2.cell 0
  have y1 : w2.cell? ⟨w.heap.size + 1, 0 + 1, none⟩ = some (.slice none 0 0) := br2.cell 1
  have fx1 := ba2.frozen (0 + 1)
  have fy0 := br2.frozen 0
  have fy1 := br2.frozen (0 + 1)
  go_wp2
  have brF : Blk (((w2.setCell ⟨w.heap.size, 1, none⟩ (.slice a3 (m + 1) cap3)).setCell ⟨w.heap.size + 1, 0, none⟩ (.int .i64 n)).setCell ⟨w.heap.size + 1, 1, none⟩ (.slice a3 (m + 1) cap3)) (w.heap.size + 1) 28 #[.int .i64 n, .slice a3 (m + 1) cap3] :=
    ((br2.far (p := ⟨w.heap.size, 1, none⟩) (by simp) _).set_ 0 _).set_ 1 _
  have f0 : _ = some (Value.int .i64 n) := brF.cell 0
  have f1 : _ = some (Value.slice a3 (m + 1) cap3) := brF.cell 1
  refine bodyPost_ret (v := .tuple #[.agg #[.int .i64 n, .slice a3 (m + 1) cap3], .int .i64 0]) (by simp [results, Try.results13, go_sem, f0, f1]) rfl ?_
  have hlen : (L ++ [n]).length = m + 1 := by rw [List.length_append, HM.out]; rfl
  refine ⟨a3, cap3, by rw [hlen], by rw [hlen]; exact hcp3, ?_, .inr (fun x e => by have := A3.out x e; omega), ?_⟩
  · rw [hlen]
    exact ((D3.out.setCell (fun x e => by have := A3.out x e; simp; omega) _).setCell (fun x e => by have := A3.out x e; simp; omega) _).setCell (fun x e => by have := A3.out x e; simp; omega) _
  · exact ((bel2.setCell (by simp) _).setCell (by simp) _).setCell (by simp) _

theorem rremove_range (n e : Int) (A : Option Addr) (cap : Nat) (L : List Int) (w : World) (h : IsList w A L.length L) (hcap : L.length ≤ cap) (he : e < 0 ∨ n < e) :
    Calls Try.prog 14 #[.agg #[.int .i64 n, .slice A L.length cap], .int .i64 e] w (RPost A n L 2 w) := by
  have H := Lib.hid h
  clear h
  by_cases he0 : e < 0
  · clear he
    go_enter Try.func14, Try.ntmps14
    go_wp2
    exact bodyPost_ret (v := .tuple #[.agg #[.int .i64 n, .slice A L.length cap], .int .i64 2]) (by simp [results, Try.results14, go_sem]) rfl ⟨A, cap, rfl, hcap, H.out.below (Nat.le_refl _) (below2 _ _ _), .inl rfl, below2 _ _ _⟩
  · have he1 : n < e := by omega
    clear he
    go_enter Try.func14, Try.ntmps14
    go_wp2
    exact bodyPost_ret (v := .tuple #[.agg #[.int .i64 n, .slice A L.length cap], .int .i64 2]) (by simp [results, Try.results14, go_sem]) rfl ⟨A, cap, rfl, hcap, H.out.below (Nat.le_refl _) (below2 _ _ _), .inl rfl, below2 _ _ _⟩

theorem below3 (w : World) (o1 o2 o3 : Obj) : Below w.heap.size w (((w.alloc o1).alloc o2).alloc o3) := (below2 w o1 o2).alloc (by simp; omega) _

theorem radvance_state (n : Int) (A : Option Addr) (cap : Nat) (L : List Int) (w : World) (h : IsList w A L.length L) (hcap : L.length ≤ cap) (hl : L.length ≤ 1000000) (hn0 : 0 ≤ n) (hn1 : n ≤ 1099511627776) (hc : 0 < L.count (n - 1)) :
    Calls Try.prog 15 #[.agg #[.int .i64 n, .slice A L.length cap]] w (RPost A n L 6 w) := by
  have H := Lib.hid h
  have H2 := Lib.hid (h.below (Nat.le_refl _) (W2_below n A L.length cap w))
  have HC := Lib.hid hc
  have CL := List.count_le_length (a := n - 1) (l := L)
  clear h hc
  go_enter Try.func15, Try.ntmps15
  go_wp2_with fail
  refine (rcount_any n (n - 1) A L.length cap L (W2 n A L.length cap w) hl H2.out).mono ?_
  rintro r w1 ⟨rfl, rfl⟩
  have hc : 0 < L.count (n - 1) := HC.out
  clear HC
  generalize hk : L.count (n - 1) = k at *
  clear hk
  unfold W2 rbC
  go_wp2
  exact bodyPost_ret (v := .tuple #[.agg #[.int .i64 n, .slice A L.length cap], .int .i64 6]) (by simp [results, Try.results15, go_sem]) rfl ⟨A, cap, rfl, hcap, H.out.below (Nat.le_refl _) (below3 _ _ _ _), .inl rfl, below3 _ _ _ _⟩

theorem radvance_ok (n : Int) (A : Option Addr) (cap : Nat) (L : List Int) (w : World) (h : IsList w A L.length L) (hcap : L.length ≤ cap) (hl : L.length ≤ 1000000) (hn0 : 0 ≤ n) (hn1 : n < 1099511627775) (hc : L.count (n - 1) = 0) :
    Calls Try.prog 15 #[.agg #[.int .i64 n, .slice A L.length cap]] w (RPost A (n + 1) L 0 w) := by
  have H := Lib.hid h
  have H2 := Lib.hid (h.below (Nat.le_refl _) (W2_below n A L.length cap w))
  have HC := Lib.hid hc
  have hne : (n == 1099511627775) = false := by rw [beq_eq_false_iff_ne]; omega
  clear h hc
  go_enter Try.func15, Try.ntmps15
  go_wp2_with fail
  refine (rcount_any n (n - 1) A L.length cap L (W2 n A L.length cap w) hl H2.out).mono ?_
  rintro r w1 ⟨rfl, rfl⟩
  rw [HC.out]
  unfold W2 rbC
  go_wp2
  exact bodyPost_ret (v := .tuple #[.agg #[.int .i64 (n + 1), .slice A L.length cap], .int .i64 0]) (by simp [results, Try.results15, go_sem]) rfl ⟨A, cap, rfl, hcap, H.out.below (Nat.le_refl _) (below3 _ _ _ _), .inl rfl, below3 _ _ _ _⟩

/-! Remove. -/
def cut (L : List Int) (k : Nat) : List Int := L.take k ++ L.drop (k + 1)
theorem cut_length (L : List Int) (k : Nat) (h : k < L.length) : (cut L k).length = L.length - 1 := by unfold cut; simp; omega

set_option maxRecDepth 100000 in
set_option maxHeartbeats 1000000 in
theorem rremove_none (n e : Int) (A : Option Addr) (cap : Nat) (L : List Int) (w : World) (h : IsList w A L.length L) (hcap : L.length ≤ cap) (hl : L.length ≤ 1000000) (he0 : 0 ≤ e) (he1 : e ≤ n) (hno : e ∉ L) :
    Calls Try.prog 14 #[.agg #[.int .i64 n, .slice A L.length cap], .int .i64 e] w (RPost A n L 7 w) := by
  have H := Lib.hid h
  have H2 := Lib.hid (h.below (Nat.le_refl _) (W2_below n A L.length cap w))
  have HN := Lib.hid hno
  clear h hno
  go_enter Try.func14, Try.ntmps14
  go_wp2
  go_loop [6] (fun i => ∃ k : Nat, k ≤ L.length ∧ i = .int .i64 k) (fun i => L.length - (intOf i).toNat)
  case atStart => exact ⟨0, Nat.zero_le _, rfl⟩
  case round =>
    obtain ⟨k, hk, rfl⟩ := hrel
    by_cases hlt : k < L.length
    · obtain ⟨b, off, hA, hb, hc⟩ := H2.out.2 (by omega)
      have hck : ((w.alloc (.cells #[.int .i64 n, .slice A L.length cap] 28)).alloc (.cells #[.int .i64 0, .slice none 0 0] 28)).cell? ⟨b, off + k, none⟩ = some (.int .i64 (L.getD k 0)) := hc k hlt
      have hne : (L.getD k 0 == e) = false := by
        rw [beq_eq_false_iff_ne]
        intro he
        exact HN.out (by rw [← he]; simp [List.getD, hlt])
      generalize L.getD k 0 = x at *
      subst hA
      clear hc H2
      go_wp2
      go_round
      case rel => exact ⟨k + 1, by omega, by go_num⟩
      case measure => simp [intOf]; omega
    · go_wp2
      exact bodyPost_ret (v := .tuple #[.agg #[.int .i64 n, .slice A L.length cap], .int .i64 7]) (by simp [results, Try.results14, go_sem]) rfl ⟨A, cap, rfl, hcap, H.out.below (Nat.le_refl _) (below2 _ _ _), .inl rfl, below2 _ _ _⟩
end Go.Proofs.Ytkdgfjjljokkhaa
