/- The contract of local.arrange. -/
import Derived.Test.YtljojgpjgjfddaaLKeys
namespace Go.Proofs.Ytljojgpjgjfddaa
open Go.RowKit Go.Maps
set_option linter.unusedVariables false

theorem infoBool : (Try.prog.info? 4).map (fun i => (i.zero, i.size, i.bytes)) = some (some (.bool false), 1, 1) := by kernel_rfl
theorem RBlk.set1 {w : World} {g : Nat} {t : TypeId} {n : Nat} {c : Nat → List Value} (h : RBlk w g t 1 n c) {i : Nat} (hi : i < n) (v : Value) : RBlk (w.setCell ⟨g, i, none⟩ v) g t 1 n (setR c i 0 v) := by
  have h1 := h.set_ (j := 0) hi (by omega) v
  rw [show i * 1 + 0 = i from by omega] at h1
  exact h1
def eqI (a b : Int) : Bool := a == b
def nodesOf (xs : List Pt) : List Int := xs.map (·.node)
/-- Which of the first k parts is node i's? -/
def findPt (xs : List Pt) (k : Nat) (i : Nat) : Option Nat := (List.range k).find? fun q => (xs.getD q pt0).node == (i : Int)
def arrPt (xs : List Pt) (i : Nat) : Pt := match findPt xs xs.length i with | some q => xs.getD q pt0 | none => pt0
def arrL (n : Nat) (xs : List Pt) : List Pt := (List.range n).map (arrPt xs)
def hasL (n : Nat) (xs : List Pt) (k : Nat) : List Bool := (List.range n).map fun i => (findPt xs k i).isSome
def arrErr (ns : List Nd) (xs : List Pt) : Int :=
  if (xs.all fun x => isNodeB ns x.node) = false then 2 else if twiceB eqI 0 (nodesOf xs) = true then 8 else if (hasL ns.length xs xs.length).contains false = true then 7 else 0
def ArrPost (ns : List Nd) (xs : List Pt) (w : World) (e : Ending) (w' : World) : Prop :=
  Below w.heap.size w w' ∧ ((arrErr ns xs ≠ 0 ∧ e = .returned (.tuple #[.slice none 0 0, .int .i64 (arrErr ns xs)])) ∨
    (arrErr ns xs = 0 ∧ ∃ g, e = .returned (.tuple #[.slice (some ⟨g, 0, none⟩) ns.length ns.length, .int .i64 0]) ∧ IsParts w' (some ⟨g, 0, none⟩) ns.length (arrL ns.length xs)))

theorem arr2 {ns : List Nd} {xs : List Pt} (h : (xs.all fun x => isNodeB ns x.node) = false) : arrErr ns xs = 2 := by unfold arrErr; rw [if_pos h]
theorem arr8 {ns : List Nd} {xs : List Pt} (h : (xs.all fun x => isNodeB ns x.node) = true) (h2 : twiceB eqI 0 (nodesOf xs) = true) : arrErr ns xs = 8 := by unfold arrErr; rw [if_neg (by rw [h]; simp), if_pos h2]
theorem arr7 {ns : List Nd} {xs : List Pt} (h : (xs.all fun x => isNodeB ns x.node) = true) (h2 : twiceB eqI 0 (nodesOf xs) = false) (h3 : (hasL ns.length xs xs.length).contains false = true) : arrErr ns xs = 7 := by
  unfold arrErr; rw [if_neg (by rw [h]; simp), if_neg (by rw [h2]; simp), if_pos h3]
theorem arr0 {ns : List Nd} {xs : List Pt} (h : (xs.all fun x => isNodeB ns x.node) = true) (h2 : twiceB eqI 0 (nodesOf xs) = false) (h3 : (hasL ns.length xs xs.length).contains false = false) : arrErr ns xs = 0 := by
  unfold arrErr; rw [if_neg (by rw [h]; simp), if_neg (by rw [h2]; simp), if_neg (by rw [h3]; simp)]
theorem ArrPost.err {ns : List Nd} {xs : List Pt} {w w' : World} {n : Int} (h : arrErr ns xs = n) (hn : n ≠ 0) (hb : Below w.heap.size w w') : ArrPost ns xs w (.returned (.tuple #[.slice none 0 0, .int .i64 n])) w' :=
  ⟨hb, .inl ⟨by rw [h]; exact hn, by rw [h]⟩⟩

/-- Parts in memory, with the cells of each by name. -/
def PartsAt (w : World) (a : Option Addr) (len : Nat) (xs : List Pt) (cv : Nat → List Value) : Prop :=
  xs.length = len ∧ (∀ i, i < len → IsPart w (cv i) (xs.getD i pt0)) ∧ (0 < len → ∃ b off, a = some ⟨b, off, none⟩ ∧ b < w.heap.size ∧ ∀ i j, i < len → j < 3 → w.cell? ⟨b, off + i * 3 + j, none⟩ = (cv i)[j]?)
theorem IsParts.named {w : World} {a : Option Addr} {len : Nat} {xs : List Pt} (h : IsParts w a len xs) : ∃ cv, PartsAt w a len xs cv := by
  obtain ⟨hl, h⟩ := h
  rcases Nat.eq_zero_or_pos len with h0 | h0
  · exact ⟨fun _ => [], hl, fun i hi => absurd hi (by omega), fun h1 => absurd h1 (by omega)⟩
  · obtain ⟨b, off, ha, hb, hc⟩ := h h0
    have hc' : ∀ i, ∃ cs, i < len → IsPart w cs (xs.getD i pt0) ∧ ∀ j, j < 3 → w.cell? ⟨b, off + i * 3 + j, none⟩ = cs[j]? := by
      intro i
      by_cases hi : i < len
      · obtain ⟨cs, h1⟩ := hc i hi
        exact ⟨cs, fun _ => h1⟩
      · exact ⟨[], fun h => absurd h hi⟩
    refine ⟨fun i => Classical.choose (hc' i), hl, fun i hi => (Classical.choose_spec (hc' i) hi).1, fun _ => ⟨b, off, ha, hb, fun i j hi hj => (Classical.choose_spec (hc' i) hi).2 j hj⟩⟩
theorem PartsAt.below {w w' : World} {B len : Nat} {a : Option Addr} {xs : List Pt} {cv : Nat → List Value} (h : PartsAt w a len xs cv) (hB : w.heap.size ≤ B) (hb : Below B w w') : PartsAt w' a len xs cv := by
  refine ⟨h.1, fun i hi => (h.2.1 i hi).below hB hb, fun h0 => ?_⟩
  obtain ⟨b, off, e, hlt, hc⟩ := h.2.2 h0
  exact ⟨b, off, e, by have := hb.size; omega, fun i j hi hj => by rw [hb.cell (by show b < B; omega)]; exact hc i j hi hj⟩
theorem PartsAt.at_ {w : World} {a : Option Addr} {len : Nat} {xs : List Pt} {cv : Nat → List Value} (h : PartsAt w a len xs cv) (k : Nat) (hk : k < len) :
    ∃ b off ad cd m, a = some ⟨b, off, none⟩ ∧ b < w.heap.size ∧ xs.getD k pt0 ∈ xs ∧ cv k = [.int .i64 (xs.getD k pt0).node, .slice ad (xs.getD k pt0).deps.length cd, .map m] ∧ w.cell? ⟨b, off + k * 3, none⟩ = some (.int .i64 (xs.getD k pt0).node) ∧ w.cell? ⟨b, off + k * 3 + 1, none⟩ = some (.slice ad (xs.getD k pt0).deps.length cd) ∧
      w.cell? ⟨b, off + k * 3 + 1 + 1, none⟩ = some (.map m) := by
  obtain ⟨b, off, e, hlt, hc⟩ := h.2.2 (by omega)
  obtain ⟨ad, cd, m, hcv, h1, h2⟩ := h.2.1 k hk
  have hl : k < xs.length := by rw [h.1]; exact hk
  refine ⟨b, off, ad, cd, m, e, hlt, by simp [List.getD, hl], hcv, ?_, ?_, ?_⟩
  · have := hc k 0 hk (by omega); rw [hcv] at this; exact this
  · have := hc k 1 hk (by omega); rw [hcv] at this; exact this
  · have := hc k 2 hk (by omega); rw [hcv] at this; exact this

/-- The row of parts after k parts are placed. -/
def rowA (cv : Nat → List Value) (xs : List Pt) (k i : Nat) : List Value := match findPt xs k i with | some q => cv q | none => [.int .i64 0, .slice none 0 0, .map none]
theorem findPt_succ (xs : List Pt) (k i : Nat) : findPt xs (k + 1) i = (findPt xs k i).or (if (xs.getD k pt0).node == (i : Int) then some k else none) := by
  unfold findPt
  rw [List.range_succ, List.find?_append]
  congr 1
  rw [List.find?_singleton]
theorem findPt_some {xs : List Pt} {k i q : Nat} (h : findPt xs k i = some q) : q < k ∧ (xs.getD q pt0).node = i := by
  unfold findPt at h
  have h1 := List.find?_some h
  have h2 := List.mem_of_find?_eq_some h
  rw [List.mem_range] at h2
  exact ⟨h2, by simpa using h1⟩
theorem nodes_take (xs : List Pt) (k : Nat) : (nodesOf xs).take k = nodesOf (xs.take k) := by unfold nodesOf; rw [List.map_take]
theorem any_take_iff {xs : List Pt} {k j : Nat} (hk : k ≤ xs.length) : (((nodesOf xs).take k).any fun y => eqI y (j : Int)) = (findPt xs k j).isSome := by
  rw [Bool.eq_iff_iff, List.any_eq_true]
  constructor
  · rintro ⟨y, hy, e⟩
    rw [nodes_take, nodesOf, List.mem_map] at hy
    obtain ⟨x, hx, rfl⟩ := hy
    rw [List.mem_take_iff_getElem] at hx
    obtain ⟨q, hq, rfl⟩ := hx
    unfold findPt
    rw [List.find?_isSome]
    refine ⟨q, List.mem_range.2 (by omega), ?_⟩
    have hql : q < xs.length := by omega
    have : xs.getD q pt0 = xs[q] := by simp [List.getD, hql]
    rw [this]; exact e
  · intro h
    obtain ⟨q, hq⟩ := Option.isSome_iff_exists.1 h
    obtain ⟨h1, h2⟩ := findPt_some hq
    have hql : q < xs.length := by omega
    refine ⟨(xs.getD q pt0).node, ?_, by unfold eqI; rw [h2]; exact beq_self_eq_true _⟩
    rw [nodes_take, nodesOf, List.mem_map]
    refine ⟨xs.getD q pt0, ?_, rfl⟩
    rw [List.mem_take_iff_getElem]
    exact ⟨q, by omega, by simp [List.getD, hql]⟩
/-- After k parts are placed. -/
def RelP (xs : List Pt) (cv : Nat → List Value) (n g : Nat) (w1 : World) (i : Value) (wr : World) : Prop :=
  ∃ k : Nat, k ≤ xs.length ∧ i = .int .i64 k ∧ RBlk wr g 32 3 n (rowA cv xs k) ∧ RBlk wr (g + 1) 4 1 n (fun i => [.bool (findPt xs k i).isSome]) ∧ twTo eqI 0 (nodesOf xs) k = false ∧ Below g w1 wr
theorem isParts_of_arr {w w1 : World} {a : Option Addr} {xs : List Pt} {cv : Nat → List Value} {n g : Nat} (hp : PartsAt w1 a xs.length xs cv) (hb : Below w1.heap.size w1 w) (hr : RBlk w g 32 3 n (rowA cv xs xs.length)) (h : (hasL n xs xs.length).contains false = false) :
    IsParts w (some ⟨g, 0, none⟩) n (arrL n xs) := by
  refine ⟨by simp [arrL], fun h0 => ⟨g, 0, rfl, hr.lt, fun i hi => ?_⟩⟩
  have e1 : (arrL n xs).getD i pt0 = arrPt xs i := by simp [arrL, hi]
  rw [e1]
  have hs : (findPt xs xs.length i).isSome = true := by
    cases hq : (findPt xs xs.length i).isSome with
    | true => rfl
    | false =>
      have : (hasL n xs xs.length).contains false = true := by
        rw [List.contains_iff_mem, hasL, List.mem_map]
        exact ⟨i, List.mem_range.2 hi, hq⟩
      rw [this] at h; cases h
  obtain ⟨q, hq⟩ := Option.isSome_iff_exists.1 hs
  obtain ⟨h1, h2⟩ := findPt_some hq
  have e2 : arrPt xs i = xs.getD q pt0 := by unfold arrPt; rw [hq]
  have e3 : rowA cv xs xs.length i = cv q := by unfold rowA; rw [hq]
  refine ⟨cv q, by rw [e2]; exact (hp.2.1 q h1).below (Nat.le_refl _) hb, fun j hj => ?_⟩
  rw [← e3, Nat.zero_add, hr.cell hi hj]

set_option maxRecDepth 100000 in
set_option maxHeartbeats 8000000 in
theorem arrange_any (ns : List Nd) (An Ac Al : Option Addr) (cn lc cc cl : Nat) (xs : List Pt) (w : World) (hl : ns.length ≤ 1000000) (hlx : xs.length ≤ 1000000) (h : IsParts w Al xs.length xs) :
    Calls Try.prog 83 #[.agg #[.slice An ns.length cn, .slice Ac lc cc], .slice Al xs.length cl] w (ArrPost ns xs w) := by
  obtain ⟨w1, hw1⟩ : ∃ w1 : World, w.alloc (.cells #[.slice An ns.length cn, .slice Ac lc cc] 25) = w1 := ⟨_, rfl⟩
  have s0 : w1.cell? ⟨w.heap.size, 0, none⟩ = some (.slice An ns.length cn) := by rw [← hw1]; simp [go_sem]
  have s1 : w1.cell? ⟨w.heap.size, 1, none⟩ = some (.slice Ac lc cc) := by rw [← hw1]; simp [go_sem]
  have sz : w1.heap.size = w.heap.size + 1 := by rw [← hw1]; simp
  have sz1 : w.heap.size < w1.heap.size := by omega
  have BW : Hid (Below w.heap.size w w1) := by rw [Hid, ← hw1]; exact (Below.refl _ _).alloc (Nat.le_refl _) _
  obtain ⟨cv, hp⟩ := (h.below (Nat.le_refl _) BW.out).named
  have P1 := Lib.hid hp
  have S0 := Lib.hid s0
  have S1 := Lib.hid s1
  have HW1 := Lib.hid hw1
  clear h hp hw1 sz
  go_enter Try.func83, Try.ntmps83
  go_wp2_with fail
  rw [HW1.out]
  go_loopw [14] (fun i wr => RelAll (fun x : Pt => isNodeB ns x.node) xs w1.heap.size w1 i wr) (fun i _ => xs.length - (RowKit.intOf i).toNat)
  case atStart => exact ⟨0, Nat.zero_le _, rfl, rfl, Below.refl _ _⟩
  case round =>
    clear s0 s1
    obtain ⟨k, hk, rfl, hall, bel⟩ := hrel
    have bs := bel.size
    have HA := Lib.hid hall
    clear hall
    have v0 : wr.cell? ⟨w.heap.size, 0, none⟩ = some (.slice An ns.length cn) := by rw [bel.cell (by exact sz1)]; exact S0.out
    have v1 : wr.cell? ⟨w.heap.size, 1, none⟩ = some (.slice Ac lc cc) := by rw [bel.cell (by exact sz1)]; exact S1.out
    have bwr : w.heap.size < wr.heap.size := by omega
    by_cases hkr : k < xs.length
    · obtain ⟨bb, off, ad, cd, m, ha, hbb, hmem, hcv, c0, c1, c2⟩ := (P1.out.below (Nat.le_refl _) bel).at_ k hkr
      have AS := Lib.hid (all_snoc (fun x : Pt => isNodeB ns x.node) pt0 xs k hkr)
      have AB := Lib.hid (all_bad (fun x : Pt => isNodeB ns x.node) pt0 xs k hkr)
      generalize xs.getD k pt0 = x at *
      subst ha
      generalize x.node = xn at *
      generalize x.deps.length = xd at *
      clear hmem hcv
      have B3 := Lib.hid (bel.alloc bs (.cells #[.int .i64 xn, .slice ad xd cd, .map m] 32))
      cases hx : isNodeB ns xn with
      | false =>
        have FIN := Lib.hid (arr2 (AB.out hx))
        have HX := Lib.hid hx
        clear hx AS AB HA
        go_wp2_with fail
        refine (isnode_any ns An Ac cn lc cc xn _ hl).mono ?_
        rintro e w4 ⟨rfl, rfl⟩
        rw [HX.out]
        have BW4 : Hid (Below w.heap.size w ((wr.alloc (.cells #[.int .i64 xn, .slice ad xd cd, .map m] 32)).alloc (.cells #[.slice An ns.length cn, .slice Ac lc cc] 25))) := (BW.out.trans (B3.out.mono (by omega))).alloc (by simp; omega) _
        go_wp2_with fail
        go_ret2
        exact ArrPost.err FIN.out (by decide) BW4.out
      | true =>
        have HX := Lib.hid hx
        have R : Hid (RelAll (fun x : Pt => isNodeB ns x.node) xs w1.heap.size w1 (.int .i64 ((k + 1 : Nat) : Int)) ((wr.alloc (.cells #[.int .i64 xn, .slice ad xd cd, .map m] 32)).alloc (.cells #[.slice An ns.length cn, .slice Ac lc cc] 25))) :=
          ⟨k + 1, by omega, rfl, by rw [AS.out, HA.out, hx]; rfl, B3.out.alloc (by simp; omega) _⟩
        clear hx AS AB HA
        go_wp2_with fail
        refine (isnode_any ns An Ac cn lc cc xn _ hl).mono ?_
        rintro e w4 ⟨rfl, rfl⟩
        rw [HX.out]
        go_wp2_with fail
        exact ⟨by simpa using R.out, by simp [RowKit.intOf]; omega⟩
    · obtain rfl : k = xs.length := by omega
      rw [List.take_length] at HA
      have BW3 := Lib.hid (BW.out.trans (bel.mono (by omega)))
      have P3 := Lib.hid (P1.out.below (Nat.le_refl _) bel)
      clear BW P1 S0 S1 bel bs hk hkr sz1
      obtain ⟨w3, rfl⟩ : ∃ w3 : World, w3 = wr := ⟨_, rfl⟩
      obtain ⟨i0, hi0, hz0, hz1, hz2⟩ := info_parts infoPart
      obtain ⟨j0, hj0, hy0, hy1, hy2⟩ := info_parts infoBool
      obtain ⟨o4, ho4⟩ : ∃ o4, Obj.cells (madeCells #[.int .i64 0, .slice none 0 0, .map none] (ns.length * 3)) 32 = o4 := ⟨_, rfl⟩
      obtain ⟨o5, ho5⟩ : ∃ o5, Obj.cells (madeCells #[.bool false] ns.length) 4 = o5 := ⟨_, rfl⟩
      have HO4 := Lib.hid ho4
      have HO5 := Lib.hid ho5
      clear ho4 ho5
      go_wp2_with (first
        | (at_make; refine wpList_make_rec _ rfl _ _ 26 rfl 32 i0 _ 3 Try.underlying26 hi0 hz0 hz1 .i64 .i64 _ _ ns.length rfl rfl rfl rfl (by rw [hz2]; omega) (by unfold maxLen; omega) ?_)
        | (at_make; refine wpList_make_rec _ rfl _ _ 154 rfl 4 j0 _ 1 Try.underlying154 hj0 hy0 hy1 .i64 .i64 _ _ ns.length rfl rfl rfl rfl (by rw [hy2]; omega) (by unfold maxLen; omega) ?_))
      rw [HO4.out, HO5.out]
      obtain ⟨w5, hw5⟩ : ∃ w5 : World, (w3.alloc o4).alloc o5 = w5 := ⟨_, rfl⟩
      have ST : Hid (RelP xs cv ns.length w3.heap.size w3 (.int .i64 0) w5) := by
        refine ⟨0, Nat.zero_le _, rfl, ?_, ?_, rfl, ?_⟩
        · rw [← hw5, ← HO4.out]
          exact ((RBlk.made w3 (m := 3) (n := ns.length) (t := 32) (z := #[.int .i64 0, .slice none 0 0, .map none]) rfl (by decide)).alloc o5).congr fun i hi => rfl
        · rw [← hw5, ← HO5.out]
          have := RBlk.made (w3.alloc o4) (m := 1) (n := ns.length) (t := 4) (z := #[.bool false]) rfl (by decide)
          rw [Nat.mul_one] at this
          have e : (w3.alloc o4).heap.size = w3.heap.size + 1 := by simp
          rw [e] at this
          exact this.congr fun i hi => rfl
        · rw [← hw5]; exact ((Below.refl _ _).alloc (Nat.le_refl _) _).alloc (by simp) _
      have HW5 := Lib.hid hw5
      clear hw5
      have P5 : Hid (PartsAt w5 Al xs.length xs cv) := P3.out.below (Nat.le_refl _) (by rw [← HW5.out]; exact ((Below.refl _ _).alloc (Nat.le_refl _) _).alloc (by simp) _)
      clear v0 v1 hi0 hz0 hz1 hz2 hj0 hy0 hy1 hy2
      rw [HW5.out]
      go_wp2_with fail
      go_loopw [34] (fun i wr => RelP xs cv ns.length w3.heap.size w3 i wr) (fun i _ => xs.length - (RowKit.intOf i).toNat)
      case atStart => exact ST.out
      case round =>
        clear ST HW5 HO4 HO5
        obtain ⟨k, hk, rfl, rb, rh, htw, bel⟩ := hrel
        have bs := bel.size
        have gl := rh.lt
        have gl2 := rb.lt
        have HT := Lib.hid htw
        clear htw
        by_cases hkr : k < xs.length
        · obtain ⟨bb, off, ad, cd, m, ha, hbb, hmem, hcv, c0, c1, c2⟩ := (P3.out.below (Nat.le_refl _) bel).at_ k hkr
          have hnode := List.all_eq_true.1 HA.out _ hmem
          have TS := Lib.hid (twTo_succ eqI 0 (nodesOf xs) k)
          have TA := Lib.hid (fun j => any_take_iff (xs := xs) (k := k) (j := j) (by omega))
          have GN : Hid ((nodesOf xs).getD k 0 = (xs.getD k pt0).node) := by rw [Hid]; simp [nodesOf, hkr]
          have FS := Lib.hid (findPt_succ xs k)
          generalize xs.getD k pt0 = x at *
          subst ha
          generalize hxn : x.node = xn at *
          generalize x.deps.length = xd at *
          clear hxn hmem
          simp only [isNodeB, Bool.and_eq_true, decide_eq_true_eq] at hnode
          obtain ⟨n0, n1⟩ := hnode
          obtain ⟨j, rfl⟩ : ∃ j : Nat, xn = j := ⟨xn.toNat, by omega⟩
          have hj : j < ns.length := by omega
          have HCV := Lib.hid hcv
          have ch : wr.cell? ⟨w3.heap.size + 1, j, none⟩ = some (.bool (findPt xs k j).isSome) := by
            have := rh.cell (i := j) (j := 0) hj (by omega)
            simpa using this
          have fh : wr.frozen? ⟨w3.heap.size + 1, j, none⟩ = false := rh.frozen _
          have fg0 : wr.frozen? ⟨w3.heap.size, j * 3, none⟩ = false := rb.frozen _
          have fg1 : wr.frozen? ⟨w3.heap.size, j * 3 + 1, none⟩ = false := rb.frozen _
          have fg2 : wr.frozen? ⟨w3.heap.size, j * 3 + 1 + 1, none⟩ = false := rb.frozen _
          clear n0 n1 hcv
          cases hf : (findPt xs k j).isSome with
          | true =>
            have FIN : Hid (arrErr ns xs = 8) := by
              refine arr8 HA.out (twTo_mono eqI 0 (nodesOf xs) (k + 1) ?_ _ (by simp [nodesOf]; omega))
              rw [TS.out, GN.out, TA.out j, hf]; simp
            rw [hf] at ch
            have BW4 : Hid (Below w.heap.size w (wr.alloc (.cells #[.int .i64 (j : Int), .slice ad xd cd, .map m] 32))) := (BW3.out.trans (bel.mono (by omega))).alloc (by omega) _
            clear hf TS TA GN FS rb rh
            go_wp2_with fail
            go_ret2
            exact ArrPost.err FIN.out (by decide) BW4.out
          | false =>
            have hfn : findPt xs k j = none := by simpa using hf
            have rz : rowA cv xs k j = [.int .i64 0, .slice none 0 0, .map none] := by unfold rowA; rw [hfn]
            have cg0 : wr.cell? ⟨w3.heap.size, j * 3, none⟩ = some (.int .i64 0) := by
              have := rb.cell (i := j) (j := 0) hj (by omega)
              rw [rz] at this; exact this
            have cg1 : wr.cell? ⟨w3.heap.size, j * 3 + 1, none⟩ = some (.slice none 0 0) := by
              have := rb.cell (i := j) (j := 1) hj (by omega)
              rw [rz] at this; exact this
            have cg2 : wr.cell? ⟨w3.heap.size, j * 3 + 1 + 1, none⟩ = some (.map none) := by
              have := rb.cell (i := j) (j := 2) hj (by omega)
              rw [rz] at this; exact this
            rw [hf] at ch
            have FJ : Hid (∀ i, findPt xs (k + 1) i = if i = j then some k else findPt xs k i) := by
              intro i
              rw [FS.out i]
              by_cases e : i = j
              · subst e; simp [hfn]
              · have : ¬ ((j : Int) = (i : Int)) := by omega
                simp [e, this]
            have TW : Hid (twTo eqI 0 (nodesOf xs) (k + 1) = false) := by
              rw [Hid, TS.out, GN.out, TA.out j, hf, HT.out]; rfl
            have HFN := Lib.hid hfn
            have RB := Lib.hid rb
            have RH := Lib.hid rh
            clear hf hfn rz TS TA GN FS rb rh
            have R : Hid (RelP xs cv ns.length w3.heap.size w3 (.int .i64 ((k + 1 : Nat) : Int)) (((((wr.setCell ⟨w3.heap.size + 1, j, none⟩ (.bool true)).setCell ⟨w3.heap.size, j * 3, none⟩ (.int .i64 (j : Int))).setCell ⟨w3.heap.size, j * 3 + 1, none⟩ (.slice ad xd cd)).setCell ⟨w3.heap.size, j * 3 + 2, none⟩ (.map m)).alloc (.cells #[.int .i64 (j : Int), .slice ad xd cd, .map m] 32))) := by
              refine ⟨k + 1, by omega, rfl, ?_, ?_, TW.out, ?_⟩
              · refine (((((RB.out.far (p := ⟨w3.heap.size + 1, j, none⟩) (by simp) _).set_ (j := 0) hj (by omega) _).set_ (j := 1) hj (by omega) _).set_ (j := 2) hj (by omega) _).alloc _).congr fun i hi => ?_
                unfold setR
                by_cases e : i = j
                · subst e
                  have h1 : rowA cv xs (k + 1) i = cv k := by unfold rowA; rw [FJ.out i, if_pos rfl]
                  have h2 : (rowA cv xs k i).length = 3 := by
                    have := RB.out.cell (i := i) (j := 0) hj (by omega)
                    have h3 := RB.out.cell (i := i) (j := 2) hj (by omega)
                    unfold rowA
                    rw [HFN.out]; rfl
                  rw [h1, HCV.out]
                  simp only [if_true]
                  match hr : rowA cv xs k i, h2 with
                  | [a0, a1, a2], _ => rfl
                · have h1 : rowA cv xs (k + 1) i = rowA cv xs k i := by unfold rowA; rw [FJ.out i, if_neg e]
                  simp [e, h1]
              · refine (((((RH.out.set1 hj (.bool true)).far (p := ⟨w3.heap.size, j * 3, none⟩) (by simp) _).far (p := ⟨w3.heap.size, j * 3 + 1, none⟩) (by simp) _).far (p := ⟨w3.heap.size, j * 3 + 2, none⟩) (by simp) _).alloc _).congr fun i hi => ?_
                unfold setR
                rw [FJ.out i]
                by_cases e : i = j
                · subst e; simp
                · simp [e]
              · exact ((((bel.setCell (by simp) _).setCell (by simp) _).setCell (by simp) _).setCell (by simp) _).alloc (by simp; omega) _
            go_wp2_with fail
            exact ⟨by simpa using R.out, by simp [RowKit.intOf]; omega⟩
        · obtain rfl : k = xs.length := by omega
          have TW : Hid (twiceB eqI 0 (nodesOf xs) = false) := by
            rw [Hid]; unfold twiceB
            have e : (nodesOf xs).length = xs.length := by simp [nodesOf]
            rw [e]; exact HT.out
          have hasl : (hasL ns.length xs xs.length).length = ns.length := by simp [hasL]
          have HH : Hid (IsRec 1 cB false wr (some ⟨w3.heap.size + 1, 0, none⟩) (hasL ns.length xs xs.length).length (hasL ns.length xs xs.length)) := by
            rw [hasl]
            refine rh.isRec hasl fun i hi => ?_
            simp [hasL, hi, cB]
          have BW4 := Lib.hid (BW3.out.trans (bel.mono (by omega)))
          cases hc : (hasL ns.length xs xs.length).contains false with
          | true =>
            have FIN := Lib.hid (arr7 HA.out TW.out hc)
            have HC := Lib.hid hc
            have HSL := Lib.hid hasl
            clear hc hasl rb rh bel TW
            go_wp2_with fail
            have cB1 := contB_any (hasL ns.length xs xs.length) (some ⟨w3.heap.size + 1, 0, none⟩) ns.length wr (by rw [HSL.out]; exact hl) HH.out
            rw [HSL.out] at cB1
            refine cB1.mono ?_
            rintro e w7 ⟨rfl, rfl⟩
            clear cB1
            rw [HC.out]
            go_wp2_with fail
            go_ret2
            exact ArrPost.err FIN.out (by decide) BW4.out
          | false =>
            have FIN := Lib.hid (arr0 HA.out TW.out hc)
            have HC := Lib.hid hc
            have HSL := Lib.hid hasl
            have HP := Lib.hid (isParts_of_arr P3.out (bel) rb hc)
            clear hc hasl rb rh bel TW
            go_wp2_with fail
            have cB1 := contB_any (hasL ns.length xs xs.length) (some ⟨w3.heap.size + 1, 0, none⟩) ns.length wr (by rw [HSL.out]; exact hl) HH.out
            rw [HSL.out] at cB1
            refine cB1.mono ?_
            rintro e w7 ⟨rfl, rfl⟩
            clear cB1
            rw [HC.out]
            go_wp2_with fail
            go_ret2
            exact ⟨BW4.out, .inr ⟨FIN.out, w3.heap.size, rfl, HP.out⟩⟩
end Go.Proofs.Ytljojgpjgjfddaa
