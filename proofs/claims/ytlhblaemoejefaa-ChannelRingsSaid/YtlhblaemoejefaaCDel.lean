/- The contract of slices.Delete at dependencies, one element, on a row of the call's own. -/
import Derived.Test.YtlhblaemoejefaaCRef3
import Derived.Deep.RegionLaw
namespace Go.Proofs.Ytlhblaemoejefaa
open Go.RowKit Go.Maps Go.Sort Go.Shelf
set_option linter.unusedVariables false

/-- append in place, in a region that draws: the block's cells written out. -/
theorem step_append_row {P : Program} {ops : Array Oper} {o : Oper} {a : Act} {w : World} {K : Act → World → Prop} {Q : Exit → Act → World → Prop} {E : Prop}
    (hg : o.guard = none) (s x : Operand) (t : TypeId) (hop : o.op = Op.call { callee := Callee.builtin Builtin.append, args := #[s, x], argTypes := #[t, t] })
    (e : TypeId) (i : TypeInfo) (size : Nat) (h1 : P.underlying t = some (.slice e)) (h2 : P.info? e = some i) (h4 : i.size = size)
    (g n cap : Nat) (cur : Array Value) (hh : w.heap[g]? = some (.cells cur e (0, 0))) (hs : a.eval s = .slice (some ⟨g, 0, none⟩) n cap)
    (ad : Addr) (m c : Nat) (news : List Value) (hx : a.eval x = .slice (some ad) m c) (hn : news.length = m * size) (hc : ∀ j u, news[j]? = some u → w.cell? (ad.add j) = some u) (h1c : ∀ u ∈ news, u.oneCell' = true)
    (hroom : n + m ≤ cap) (hfit : n * size + news.length ≤ cur.size)
    (hK : K (a.put o.dst (.slice (some ⟨g, 0, none⟩) (n + m) cap)) (w.setRow g (cur.toList.take (n * size) ++ news ++ cur.toList.drop (n * size + news.length)).toArray)) :
    if Region.wanted o (yielded ops a.tmps) = true then Oper.wp P o a w K Q else E := by
  have hw : Region.wanted o (yielded ops a.tmps) = true := by simp [Region.wanted, hg]
  rw [if_pos hw]
  subst h4
  have hrun := run_append_room (P := P) (w := w) t o.type e i h1 h2 g n cap cur hh ad m c news hn hc h1c hroom hfit
  unfold Oper.wp execOp
  simp only [hop, resolve, invoke, builtin, Sem.run_bind, Sem.run_pure, Result.andThen_ok, List.map_toArray, List.map_cons, List.map_nil, hs, hx, hrun]
  exact hK
theorem run_clear_one {P : Program} (w : World) (t e ty : TypeId) (z : Value) (ht : P.underlying t = some (.slice e)) (hv : ∀ w, (zeroValue e).run P w = .ok z w) (h1 : ∀ u ∈ z.cells, u.oneCell' = true) (g o c : Nat) (cur : Array Value)
    (hh : w.heap[g]? = some (.cells cur e (0, 0))) (hfit : o + z.cells.size ≤ cur.size) :
    (Builtin.clear_ #[t] ty #[.slice (some ⟨g, o, none⟩) 1 c]).run P w = .ok (.tuple #[]) (w.setRow g (cur.toList.take o ++ z.cells.toList ++ cur.toList.drop (o + z.cells.size)).toArray) := by
  have hzc : (Builtin.zeroCells z.cells 1).toList = z.cells.toList := by
    unfold Builtin.zeroCells
    apply List.ext_getElem
    · simp
    · intro i h1 h2
      have hi : i < z.cells.size := by simpa using h2
      simp [Nat.mod_eq_of_lt hi]
      exact getElem!_pos z.cells i hi
  have hst := run_storeCells_at P g o e z.cells.toList 0 cur w hh (by simpa using hfit) (by intro v hv'; exact h1 v (by simpa using hv'))
  simp only [Nat.add_zero] at hst
  simp [Builtin.clear_, run_underlying ht, hv, hzc, hst]
theorem zeroDep (w : World) : (zeroValue 28).run Try.prog w = .ok (.agg #[.int .i64 0, .int .i64 0, .int .i64 0]) w := by
  obtain ⟨i0, hi0, hz0, hz1, hz2⟩ := info_parts infoDepD
  simp [zeroValue, typeInfo, hi0, hz0]
set_option maxRecDepth 100000 in
set_option maxHeartbeats 4000000 in
theorem delD_any (l : List Dp) (k g cap base : Nat) (w : World) (hl : l.length ≤ 1000) (hk : k < l.length) (own : w.ownsRow base 28 3 (.slice (some ⟨g, 0, none⟩) l.length cap) l.length (l.flatMap cD)) :
    Calls Try.prog 27 #[.slice (some ⟨g, 0, none⟩) l.length cap, .int .i64 k, .int .i64 ((k + 1 : Nat) : Int)] w fun e w' =>
      e = .returned (.slice (some ⟨g, 0, none⟩) (l.length - 1) cap) ∧ IsRec 3 cD d0 w' (some ⟨g, 0, none⟩) (l.length - 1) (l.eraseIdx k) ∧ w.heap.size ≤ w'.heap.size ∧ Below base w w' := by
  obtain ⟨i0, hi0, hz0, hz1, hz2⟩ := info_parts infoDepD
  obtain ⟨cur, hb, hh, hnc, hcm, hcs, htk⟩ : ∃ cur : Array Value, base ≤ g ∧ w.heap[g]? = some (.cells cur 28 (0, 0)) ∧ l.length ≤ cap ∧ cap ≤ maxLen ∧ cur.size = cap * 3 ∧ cur.toList.take (l.length * 3) = l.flatMap cD := by
    rcases own.2 with ⟨h1, _⟩ | ⟨g', cap', cur, h1, h2, h3, h4, h5, h6, h7⟩
    · cases h1
    · injection h1 with e1 _ e2
      injection e1 with e1
      injection e1 with e1
      subst e1; subst e2
      exact ⟨cur, h2, h3, h4, h5, h6, h7⟩
  have FT : (l.take k).flatMap cD = cur.toList.take (k * 3) := by
    rw [← flat_take, ← htk, List.take_take, Nat.min_eq_left (by omega)]
  obtain ⟨news, hnews⟩ : ∃ news, news = (l.drop (k + 1)).flatMap cD := ⟨_, rfl⟩
  have hnl : news.length = (l.length - (k + 1)) * 3 := by rw [hnews, flatG_length (m := 3) cD_len3, List.length_drop]
  have hcl3 : l.length * 3 ≤ cur.size := by rw [hcs]; omega
  obtain ⟨AD, hAD, hsrc⟩ : ∃ AD : Addr, (if cap = k + 1 then some (⟨g, 0, none⟩ : Addr) else some ⟨g, (k + 1) * 3, none⟩) = some AD ∧ Hid (∀ j u, news[j]? = some u → w.drew.cell? (AD.add j) = some u) := by
    by_cases h : cap = k + 1
    · refine ⟨⟨g, 0, none⟩, by simp [h], fun t u hu => ?_⟩
      have h0 : news.length = 0 := by rw [hnl]; omega
      rw [List.length_eq_zero_iff.1 h0] at hu
      simp at hu
    · refine ⟨⟨g, (k + 1) * 3, none⟩, by simp [h], fun t u hu => ?_⟩
      have ht : t < news.length := (List.getElem?_eq_some_iff.1 hu).1
      have hcell := cell_of_row w g ((k + 1) * 3 + t) cur 28 (0, 0) hh
      rw [Addr.add_lit]
      refine Eq.trans hcell ?_
      rw [← hu, hnews, ← flat_dropC, List.getElem?_drop, ← htk, List.getElem?_take, if_pos (by omega)]
      simp
  have s1 := Lib.hid hnl
  have s2 : Hid (∀ u ∈ news, u.oneCell' = true) := by rw [hnews]; exact cD_oneJ _
  have hhd : Hid (w.drew.heap[g]? = some (.cells cur 28 (0, 0))) := hh
  obtain ⟨X, hX⟩ : ∃ X : Array Value, X = (cur.toList.take (k * 3) ++ news ++ cur.toList.drop (k * 3 + news.length)).toArray := ⟨_, rfl⟩
  have XZ : X.size = cur.size := by
    rw [hX]; simp; omega
  obtain ⟨W1, hW1⟩ : ∃ W1, W1 = w.drew.setRow g X := ⟨_, rfl⟩
  have hh1 : W1.heap[g]? = some (.cells X 28 (0, 0)) := by rw [hW1]; exact setRow_heap _ g cur X _ _ hh
  have HX := Lib.hid hX
  have HW1 := Lib.hid hW1
  have k0 : (0 : Int) ≤ (k : Int) := by omega
  have k1 : (k : Int) ≤ (k : Int) + 1 := by omega
  have k8 : (0 : Int) ≤ (k : Int) + 1 := by omega
  have k2 : (k : Int) + 1 ≤ (l.length : Int) := by omega
  have k3 : (l.length : Int) ≤ (cap : Int) := by omega
  have k4 : k ≤ k + 1 := by omega
  have k5 : k + 1 ≤ l.length := by omega
  have k6 : k ≤ cap := by omega
  have k7 : k + 1 ≤ cap := by omega
  obtain ⟨o, ho⟩ : ∃ o : Nat, (k + (l.length - (k + 1))) * 3 = o := ⟨_, rfl⟩
  have ho2 : o = (l.length - 1) * 3 := by omega
  obtain ⟨Y, hY⟩ : ∃ Y : Array Value, Y = (X.toList.take o ++ [Value.int .i64 0, Value.int .i64 0, Value.int .i64 0] ++ X.toList.drop (o + 3)).toArray := ⟨_, rfl⟩
  obtain ⟨W2, hW2⟩ : ∃ W2, W2 = W1.setRow g Y := ⟨_, rfl⟩
  have hh2 : W2.heap[g]? = some (.cells Y 28 (0, 0)) := by rw [hW2]; exact setRow_heap _ g X Y _ _ hh1
  have hcl : ∀ ty, (Builtin.clear_ #[25] ty #[.slice (some ⟨g, (k + (l.length - (k + 1))) * 3, none⟩) (l.length - (k + (l.length - (k + 1)))) (cap - (k + (l.length - (k + 1))))]).run Try.prog W1 = .ok (.tuple #[]) W2 := fun ty => by
    rw [show l.length - (k + (l.length - (k + 1))) = 1 by omega, ho, hW2, hY]
    exact run_clear_one W1 25 28 ty _ Try.underlying25 zeroDep (by intro u hu; simp [Value.cells] at hu; rcases hu with rfl | rfl | rfl <;> rfl) g o _ X hh1 (by show o + 3 ≤ X.size; rw [XZ]; omega)
  have ER : (l.eraseIdx k).flatMap cD = cur.toList.take (k * 3) ++ news := by
    rw [hnews, ← FT, List.eraseIdx_eq_take_drop_succ, List.flatMap_append]
  have EL : (l.eraseIdx k).length = l.length - 1 := List.length_eraseIdx_of_lt hk
  have REC : Hid (IsRec 3 cD d0 W2 (some ⟨g, 0, none⟩) (l.length - 1) (l.eraseIdx k)) := by
    refine ⟨EL, fun h0 => ⟨g, 0, rfl, (Array.getElem?_eq_some_iff.1 hh2).1, fun i j hi hj => ?_⟩⟩
    have hcell := cell_of_row W2 g (0 + i * 3 + j) Y 28 (0, 0) hh2
    refine Eq.trans hcell ?_
    rw [← flatG_at (m := 3) cD_len3 _ i j (by rw [EL]; exact hi) hj, ER, hY, Nat.zero_add]
    have hlt : i * 3 + j < o := by omega
    have hxl : o ≤ X.toList.length := by rw [Array.length_toList, XZ]; omega
    have e1 : (X.toList.take o ++ [Value.int .i64 0, Value.int .i64 0, Value.int .i64 0] ++ X.toList.drop (o + 3)).toArray[i * 3 + j]? = X.toList[i * 3 + j]? := by
      rw [List.getElem?_toArray, List.append_assoc, List.getElem?_append_left (by rw [List.length_take]; omega), List.getElem?_take, if_pos hlt]
    have hln : (cur.toList.take (k * 3) ++ news).length = o := by
      rw [List.length_append, List.length_take, Array.length_toList, hnl]; omega
    rw [e1, hX, List.toList_toArray, List.getElem?_append_left (by omega)]
  have BEL : Hid (Below base w W2 ∧ w.heap.size ≤ W2.heap.size) := by
    have h1 : w.heap.size = W1.heap.size := by rw [hW1]; simp [World.setRow]
    have h2 : W1.heap.size = W2.heap.size := by rw [hW2]; simp [World.setRow]
    refine ⟨⟨by rw [hW2, hW1]; rfl, by rw [hW2, hW1]; rfl, by rw [hW2, hW1]; rfl, by omega, fun i hi => ?_⟩, by omega⟩
    rw [hW2, setRow_other _ _ _ _ (by omega), hW1, setRow_other _ _ _ _ (by omega)]; rfl
  clear hX hW1 hnews hnl FT hh hcs htk ho ho2 hY hW2 hh2 ER EL
  go_enter Try.func27, Try.ntmps27
  go_wp2_with fail
  go_region_law (refine step_append_row rfl (.tmp 22) (.tmp 25) 25 rfl 28 i0 3 Try.underlying25 hi0 hz1 g k cap cur hhd.out (by simp [Act.eval, Act.put]) AD (l.length - (k + 1)) (cap - (k + 1)) news (by simp [Act.eval, Act.put]) s1.out hsrc.out s2.out (by omega) (by rw [s1.out]; omega) ?_; rw [← HX.out, ← HW1.out])
  go_wp2_with fail
  go_ret
  refine ⟨?_, REC.out, BEL.out.2, BEL.out.1⟩
  rw [show l.length - 1 = k + (l.length - (k + 1)) by omega]; rfl
end Go.Proofs.Ytlhblaemoejefaa
