/- Several texts in one: LCloneP, LChangeLaw, LRow. -/
import Derived.Test.YtljojgpjgjfddaaLClone
import Derived.Test.YtljojgpjgjfddaaLFaultLaw

/- The contract of slices.Clone at parts. -/
namespace Go.Proofs.Ytljojgpjgjfddaa
open Go.RowKit Go.Maps
set_option linter.unusedVariables false

/-- A new slice with these cells (three for each part). -/
def RowPost (n : Nat) (F : List Value) (w : World) (e : Ending) (w' : World) : Prop :=
  ∃ v, e = .returned v ∧ w'.ownsRow w.heap.size 32 3 v n F ∧ Below w.heap.size w w'
end Go.Proofs.Ytljojgpjgjfddaa

/- Plain laws of LocalChanges: a part left out, a part twice, one rank changed. No program in sight. -/
namespace Go.Proofs.Ytljojgpjgjfddaa
open Go.RowKit Go.Maps
set_option linter.unusedVariables false

theorem xor1_ne {v : Int} : bits .xor .i64 v 1 ≠ v := by
  intro e
  have e2 : bits .xor .i64 v 1 = IntKind.i64.wrap ((BitVec.ofInt 64 v ^^^ BitVec.ofInt 64 1).toNat : Int) := rfl
  rw [e2] at e
  generalize hB : BitVec.ofInt 64 v ^^^ BitVec.ofInt 64 1 = B at e
  rw [IntKind.wrap_i64] at e
  have hA : BitVec.ofInt 64 v = B := by
    apply BitVec.eq_of_toNat_eq
    rw [BitVec.toNat_ofInt]
    have := B.isLt
    omega
  rw [hA] at hB
  have h0 := congrArg (fun z : BitVec 64 => z.getLsbD 0) hB
  simp at h0
theorem xor1_wf (v : Int) : (Lit.int .i64 (bits .xor .i64 v 1)).wf = true := by
  have e2 : bits .xor .i64 v 1 = IntKind.i64.wrap ((BitVec.ofInt 64 v ^^^ BitVec.ofInt 64 1).toNat : Int) := rfl
  rw [e2, IntKind.wrap_i64]
  have e1 : IntKind.i64.min = -9223372036854775808 := by decide
  have e3 : IntKind.i64.max = 9223372036854775807 := by decide
  simp only [Lit.wf, Bool.and_eq_true, decide_eq_true_eq, e1, e3]
  omega

theorem keysE_put_mem {E : Ens} {x v y : Int} (hx : x ∈ keysE E) : y ∈ keysE (putE E x v) ↔ y ∈ keysE E := by
  rw [← lookE_some, ← lookE_some, lookE_put]
  by_cases e : y = x
  · subst e; simp [lookE_some.2 hx]
  · simp [e]
theorem sortE_put {E : Ens} (hs : (keysE E).Pairwise (· < ·)) {x : Int} (hx : x ∈ keysE E) (v : Int) : sortE (putE E x v) = keysE E := by
  have hn : (keysE E).Nodup := hs.imp fun {a b} h e => by omega
  have hp : (sortE (putE E x v)).Perm (keysE E) := by
    unfold sortE
    refine (List.mergeSort_perm _ _).trans ?_
    exact (List.perm_ext_iff_of_nodup (putE_nodup hn x v) hn).2 fun y => keysE_put_mem hx
  refine List.Perm.eq_of_pairwise (le := fun a b => a ≤ b) (fun a b _ _ h1 h2 => by omega) ?_ (hs.imp fun {a b} h => by omega) hp
  unfold sortE
  refine (List.pairwise_mergeSort (le := leI) (fun a b c h1 h2 => ?_) (fun a b => ?_) _).imp fun {a b} h => ?_
  · simp [leI] at h1 h2 ⊢; omega
  · simp [leI]; omega
  · simpa [leI] using h

section
variable (p : Pl) (ds : List Dp) (r : List Int)
theorem mem_split_node {x : Pt} (h : x ∈ splitL p ds r) : isNodeB p.ns x.node = true := by
  unfold splitL at h
  rw [List.mem_map] at h
  obtain ⟨i, hi, rfl⟩ := h
  rw [List.mem_range] at hi
  simp [isNodeB, splitPt]
  omega
theorem nodes_split_get {i : Nat} (h : i < p.ns.length) : (nodesOf (splitL p ds r)).getD i 0 = i := by
  rw [nodes_split]; simp [h]
/-- One part left out. -/
theorem change_none (h : validP p = 0) {k : Nat} (hk : k < p.ns.length) : agreeErr p ((splitL p ds r).take k ++ (splitL p ds r).drop (k + 1)) = 7 := by
  have hsub : ((splitL p ds r).take k ++ (splitL p ds r).drop (k + 1)).Sublist (splitL p ds r) := by
    conv => rhs; rw [← List.take_append_drop k (splitL p ds r)]
    refine List.Sublist.append (List.Sublist.refl _) ?_
    rw [← List.drop_drop]
    exact List.drop_sublist 1 _
  have hnd : (nodesOf (splitL p ds r)).Nodup := by rw [nodes_split]; exact range_nodup _
  have h7 : arrErr p.ns ((splitL p ds r).take k ++ (splitL p ds r).drop (k + 1)) = 7 := by
    refine arr7 ?_ ?_ ?_
    · rw [List.all_eq_true]
      intro x hx
      exact mem_split_node p ds r (hsub.subset hx)
    · exact twice_false (hnd.sublist (hsub.map _))
    · refine has_false_iff.2 ⟨k, hk, ?_⟩
      intro hm
      unfold nodesOf at hm
      rw [List.map_append, List.mem_append, List.map_take, List.map_drop] at hm
      have e : List.map (·.node) (splitL p ds r) = (List.range p.ns.length).map fun i : Nat => (i : Int) := nodes_split p ds r
      rw [e] at hm
      rcases hm with hm | hm
      · rw [List.mem_iff_getElem] at hm
        obtain ⟨i, hi, he⟩ := hm
        simp at hi he
        omega
      · rw [List.mem_iff_getElem] at hm
        obtain ⟨i, hi, he⟩ := hm
        simp at hi he
        omega
  rw [agrA h (by rw [h7]; decide), h7]
/-- One part twice. -/
theorem change_twice (h : validP p = 0) {k : Nat} (hk : k < p.ns.length) : agreeErr p (splitL p ds r ++ [splitPt p ds r k]) = 8 := by
  have h8 : arrErr p.ns (splitL p ds r ++ [splitPt p ds r k]) = 8 := by
    refine arr8 ?_ ?_
    · rw [List.all_eq_true]
      intro x hx
      rcases List.mem_append.1 hx with hx | hx
      · exact mem_split_node p ds r hx
      · simp at hx; subst hx
        simp [isNodeB, splitPt]
        omega
    · have e : nodesOf (splitL p ds r ++ [splitPt p ds r k]) = nodesOf (splitL p ds r) ++ [(k : Int)] := by unfold nodesOf; rw [List.map_append]; rfl
      have hl : (nodesOf (splitL p ds r)).length = p.ns.length := by rw [nodes_split]; simp
      refine twice_true (i := k) (j := p.ns.length) hk (by rw [e, List.length_append, hl]; simp) ?_
      rw [e]
      have g1 : (nodesOf (splitL p ds r) ++ [(k : Int)]).getD k 0 = (nodesOf (splitL p ds r)).getD k 0 := by
        unfold List.getD; rw [List.getElem?_append_left (by rw [hl]; exact hk)]
      have g2 : (nodesOf (splitL p ds r) ++ [(k : Int)]).getD p.ns.length 0 = k := by
        unfold List.getD; rw [List.getElem?_append_right (by rw [hl]; exact Nat.le_refl _), hl]; simp
      rw [g1, g2, nodes_split_get p ds r hk]
  rw [agrA h (by rw [h8]; decide), h8]
theorem arr_range {xs : List Pt} (hx : nodesOf xs = (List.range p.ns.length).map fun i : Nat => (i : Int)) : arrErr p.ns xs = 0 ∧ arrL p.ns.length xs = xs := by
  have hl : xs.length = p.ns.length := by have := congrArg List.length hx; simpa [nodesOf] using this
  have hnode : ∀ i, i < p.ns.length → (xs.getD i pt0).node = i := by
    intro i hi
    have h1 : (nodesOf xs).getD i 0 = i := by rw [hx]; simp [hi]
    have h2 : (nodesOf xs).getD i 0 = (xs.getD i pt0).node := by simp [nodesOf, List.getD, hl, hi]
    rw [← h2, h1]
  constructor
  · refine arr0 ?_ ?_ ?_
    · rw [List.all_eq_true]
      intro x hm
      have : x.node ∈ nodesOf xs := List.mem_map.2 ⟨x, hm, rfl⟩
      rw [hx, List.mem_map] at this
      obtain ⟨i, hi, e⟩ := this
      rw [List.mem_range] at hi
      simp [isNodeB, ← e]
      omega
    · rw [hx]; exact twice_false (range_nodup _)
    · rw [Bool.eq_false_iff]
      intro h
      obtain ⟨i, hi, hn⟩ := has_false_iff.1 h
      rw [hx] at hn
      exact hn (List.mem_map.2 ⟨i, List.mem_range.2 hi, rfl⟩)
  · refine List.ext_getElem (by simp [arrL, hl]) ?_
    intro i h1 h2
    have hi : i < p.ns.length := by simpa [arrL] using h1
    have hf : findPt xs xs.length i = some i := find_unique (by rw [hx]; exact range_nodup _) h2 (hnode i hi)
    have e1 : (arrL p.ns.length xs)[i] = arrPt xs i := by simp [arrL]
    have e2 : xs[i] = xs.getD i pt0 := by simp [List.getD, h2]
    rw [e1, e2]
    unfold arrPt
    rw [hf]
theorem valid_ab (h : validP p = 0) {x : Cb} (hx : x ∈ p.cs) : x.a ≠ x.b := by
  unfold validP at h
  split at h; · cases h
  split at h; · cases h
  split at h; · cases h
  split at h; · cases h
  split at h; · cases h
  rename_i hh
  simp only [Bool.not_eq_false, List.all_eq_true, decide_eq_true_eq] at hh
  exact hh x hx
def chgL (k : Nat) (x v : Int) : List Pt := (splitL p ds r).set k ⟨k, ownDeps ds k, putE (ranksOf p.cs r k) x v⟩
theorem chgL_length (k : Nat) (x v : Int) : (chgL p ds r k x v).length = p.ns.length := by simp [chgL, splitL]
theorem chgL_get {k : Nat} (hk : k < p.ns.length) (x v : Int) {i : Nat} (hi : i < p.ns.length) : (chgL p ds r k x v).getD i pt0 = if i = k then ⟨k, ownDeps ds k, putE (ranksOf p.cs r k) x v⟩ else splitPt p ds r i := by
  unfold chgL
  have hl := splitL_length p ds r
  by_cases e : i = k
  · subst e; simp [List.getD, hl, hi]
  · rw [if_neg e, ← splitL_get p ds r hi]
    simp [List.getD, Ne.symm e]
theorem nodes_chg {k : Nat} (hk : k < p.ns.length) (x v : Int) : nodesOf (chgL p ds r k x v) = (List.range p.ns.length).map fun i : Nat => (i : Int) := by
  refine List.ext_getElem (by simp [nodesOf, chgL_length]) ?_
  intro i h1 h2
  have hi : i < p.ns.length := by simpa using h2
  have e : (nodesOf (chgL p ds r k x v))[i] = ((chgL p ds r k x v).getD i pt0).node := by simp [nodesOf, List.getD, chgL_length, hi]
  rw [e, chgL_get p ds r hk x v hi]
  by_cases e2 : i = k
  · subst e2; simp
  · rw [if_neg e2]; simp [splitPt]
/-- One rank changed. -/
theorem change_sum (h : validP p = 0) {k : Nat} (hk : k < p.ns.length) {x v : Int} (hx : x ∈ chansAt p.cs k) (hv : v ≠ r.getD x.toNat 0) : agreeErr p (chgL p ds r k x v) = 9 := by
  obtain ⟨ha, hL⟩ := arr_range p (nodes_chg p ds r hk x v)
  have hsort : (keysE (ranksOf p.cs r k)).Pairwise (· < ·) := by rw [keysE_ranksOf]; exact chTo_sorted p.cs k p.cs.length
  refine agr9 h ha ?_ ?_
  · rw [hL]
    refine split_form p _ (chgL_length p ds r k x v) fun i hi => ?_
    rw [chgL_get p ds r hk x v hi]
    by_cases e : i = k
    · subst e
      rw [if_pos rfl]
      show sortE (putE _ _ _) = _
      rw [sortE_put hsort (by rw [keysE_ranksOf]; exact hx), keysE_ranksOf]
    · rw [if_neg e]; exact sortE_ranksOf p.cs r i
  · rw [hL]
    obtain ⟨h0, h1, hat⟩ := mem_chansAt.1 hx
    obtain ⟨c, rfl⟩ : ∃ c : Nat, x = c := ⟨x.toNat, by omega⟩
    have hc : c < 2 * p.cs.length := by omega
    obtain ⟨ns, cs⟩ := p
    simp only at *
    obtain ⟨⟨n1, n2⟩, n3, n4⟩ := ends_node h c hc
    obtain ⟨m1, m2⟩ := ends_at (cs := cs) (c := c) (by omega) (by omega)
    have hin : cs.getD ((c : Int) / 2).toNat cb0 ∈ cs := by
      have : ((c : Int) / 2).toNat < cs.length := by omega
      simp [List.getD, this]
    have hab := valid_ab ⟨ns, cs⟩ h hin
    have hne : (chEnds cs c).1 ≠ (chEnds cs c).2 := by
      unfold chEnds; split
      · exact hab
      · exact Ne.symm hab
    have hone : (chEnds cs c).1 = k ∨ (chEnds cs c).2 = k := by
      simp [atB] at hat
      unfold chEnds; split
      · exact hat
      · exact hat.symm
    obtain ⟨f, hf⟩ : ∃ f : Nat, (chEnds cs c).1 = f := ⟨_, (Int.toNat_of_nonneg n1).symm⟩
    obtain ⟨t, ht⟩ : ∃ t : Nat, (chEnds cs c).2 = t := ⟨_, (Int.toNat_of_nonneg n3).symm⟩
    refine all_range_bad hc ?_
    rw [hf, ht] at hne hone ⊢
    rw [hf] at m1 n2
    rw [ht] at m2 n4
    have rk : ∀ i : Nat, i < ns.length → (c : Int) ∈ chansAt cs i → rankAt (chgL ⟨ns, cs⟩ ds r k c v) i c = if i = k then v else r.getD c 0 := by
      intro i hi hm
      unfold rankAt
      rw [Int.toNat_natCast, chgL_get ⟨ns, cs⟩ ds r hk c v hi]
      by_cases e : i = k
      · subst e
        rw [if_pos rfl, if_pos rfl]
        show (lookE (putE _ _ _) _).getD 0 = _
        rw [lookE_put, if_pos rfl]; rfl
      · rw [if_neg e, if_neg e]
        show (lookE (ranksOf cs r i) c).getD 0 = _
        rw [lookE_ranksOf, if_pos hm]; rfl
    rw [rk f (by omega) m1, rk t (by omega) m2]
    have hft : f ≠ t := fun e => hne (by rw [e])
    rw [decide_eq_false_iff_not]
    have hv' : v ≠ r.getD c 0 := hv
    rcases hone with e | e
    · have e' : f = k := by omega
      subst e'
      rw [if_pos rfl, if_neg (Ne.symm hft)]
      exact hv'
    · have e' : t = k := by omega
      subst e'
      rw [if_neg hft, if_pos rfl]
      exact Ne.symm hv'
end
end Go.Proofs.Ytljojgpjgjfddaa

/- Rows of parts as lists of (cells, part): cut, joined, read back. -/
namespace Go.Proofs.Ytljojgpjgjfddaa
open Go.RowKit Go.Maps
set_option linter.unusedVariables false

abbrev Q3 := (Value × Value × Value) × Pt
def q30 : Q3 := ((undef, undef, undef), pt0)
def cQ (q : Q3) : List Value := [q.1.1, q.1.2.1, q.1.2.2]
theorem cQ_length : ∀ q, (cQ q).length = 3 := fun _ => rfl
def OkQ (w : World) (L : List Q3) : Prop := ∀ q ∈ L, IsPart w (cQ q) q.2
def ptsQ (L : List Q3) : List Pt := L.map (·.2)
theorem ptsQ_length (L : List Q3) : (ptsQ L).length = L.length := by simp [ptsQ]
theorem OkQ.below {w w' : World} {B : Nat} {L : List Q3} (h : OkQ w L) (hB : w.heap.size ≤ B) (hb : Below B w w') : OkQ w' L := fun q hq => (h q hq).below hB hb
theorem OkQ.sub {w : World} {L L' : List Q3} (h : OkQ w L) (hs : ∀ q ∈ L', q ∈ L) : OkQ w L' := fun q hq => h q (hs q hq)
theorem OkQ.one {w : World} {L : List Q3} (h : OkQ w L) : ∀ u ∈ L.flatMap cQ, u.oneCell' = true := by
  intro u hu
  rw [List.mem_flatMap] at hu
  obtain ⟨q, hq, hu⟩ := hu
  obtain ⟨a, cap, m, e, _⟩ := h q hq
  rw [e] at hu
  simp at hu
  rcases hu with rfl | rfl | rfl <;> rfl
theorem parts_of_rec {w : World} {a : Option Addr} {n : Nat} {L : List Q3} (h : IsRec 3 cQ q30 w a n L) (hk : OkQ w L) : IsParts w a n (ptsQ L) := by
  refine ⟨by rw [ptsQ_length, h.1], fun h0 => ?_⟩
  obtain ⟨b, off, ha, hb, hc⟩ := h.2 h0
  refine ⟨b, off, ha, hb, fun i hi => ⟨cQ (L.getD i q30), ?_, fun j hj => hc i j hi hj⟩⟩
  have hl : i < L.length := by rw [h.1]; exact hi
  have e : (ptsQ L).getD i pt0 = (L.getD i q30).2 := by simp [ptsQ, List.getD, hl]
  rw [e]
  exact hk _ (by simp [List.getD, hl])
theorem parts_of_own {w : World} {base n : Nat} {v : Value} {L : List Q3} (h : w.ownsRow base 32 3 v n (L.flatMap cQ)) (hk : OkQ w L) : ∃ a cap, v = .slice a n cap ∧ IsParts w a n (ptsQ L) ∧ L.length = n := by
  obtain ⟨a, cap, rfl, _, hr, _⟩ := rec_of_own (m := 3) (c := cQ) (d := q30) cQ_length (by decide) h
  exact ⟨a, cap, rfl, parts_of_rec hr hk, hr.1⟩
theorem flat_drop (L : List Q3) (k : Nat) : (L.flatMap cQ).drop (k * 3) = (L.drop k).flatMap cQ := by
  induction L generalizing k with
  | nil => simp
  | cons q l ih =>
    cases k with
    | zero => simp
    | succ k =>
      rw [List.flatMap_cons, List.drop_succ_cons, ← ih k, show (k + 1) * 3 = (cQ q).length + k * 3 by rw [cQ_length]; omega, List.drop_append]
      simp
theorem rec_take {w : World} {a : Option Addr} {n k : Nat} {L : List Q3} (h : IsRec 3 cQ q30 w a n L) (hk : k ≤ n) : IsRec 3 cQ q30 w a k (L.take k) := by
  refine ⟨by rw [List.length_take, h.1]; omega, fun h0 => ?_⟩
  obtain ⟨b, off, ha, hb, hc⟩ := h.2 (by omega)
  refine ⟨b, off, ha, hb, fun i j hi hj => ?_⟩
  rw [hc i j (by omega) hj]
  have e : (L.take k).getD i q30 = L.getD i q30 := by simp [List.getD, hi]
  rw [e]
/-- The row that Split leaves. -/
def splitQ (p : Pl) (ds : List Dp) (r : List Int) (dv : Nat → Value) (mb : Nat → Nat) : List Q3 := (List.range p.ns.length).map fun i : Nat => ((.int .i64 i, dv i, .map (some (mb i))), splitPt p ds r i)
theorem splitQ_pts (p : Pl) (ds : List Dp) (r : List Int) (dv : Nat → Value) (mb : Nat → Nat) : ptsQ (splitQ p ds r dv mb) = splitL p ds r := by
  unfold ptsQ splitQ splitL; rw [List.map_map]; rfl
theorem splitQ_length (p : Pl) (ds : List Dp) (r : List Int) (dv : Nat → Value) (mb : Nat → Nat) : (splitQ p ds r dv mb).length = p.ns.length := by simp [splitQ]
theorem splitQ_get (p : Pl) (ds : List Dp) (r : List Int) (dv : Nat → Value) (mb : Nat → Nat) {i : Nat} (hi : i < p.ns.length) : (splitQ p ds r dv mb).getD i q30 = ((.int .i64 i, dv i, .map (some (mb i))), splitPt p ds r i) := by simp [splitQ, hi]
section
variable {p : Pl} {ds : List Dp} {r : List Int} {w w' : World} {g : Nat} {dv : Nat → Value} {mb : Nat → Nat}
theorem SplitOk.okQ (h : SplitOk p ds r w w' g dv mb) : OkQ w' (splitQ p ds r dv mb) := by
  intro q hq
  unfold splitQ at hq
  rw [List.mem_map] at hq
  obtain ⟨i, hi, rfl⟩ := hq
  rw [List.mem_range] at hi
  obtain ⟨a, cap, hv, _, hrec, _⟩ := rec_of_own (m := 3) (c := cD) (d := d0) (fun _ => rfl) (by decide) (h.deps i hi)
  exact ⟨a, cap, some (mb i), by unfold cQ; rw [hv]; rfl, hrec, .inr ⟨mb i, rfl, h.maps i hi⟩⟩
theorem SplitOk.recQ (h : SplitOk p ds r w w' g dv mb) : IsRec 3 cQ q30 w' (some ⟨g, 0, none⟩) p.ns.length (splitQ p ds r dv mb) :=
  h.row.isRec (splitQ_length ..) fun i hi => by rw [splitQ_get p ds r dv mb hi]; rfl
end
end Go.Proofs.Ytljojgpjgjfddaa
