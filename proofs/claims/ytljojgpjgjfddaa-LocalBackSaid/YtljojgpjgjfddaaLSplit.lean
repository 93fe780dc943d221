/- The contract of local.Split. -/
import Derived.Test.YtljojgpjgjfddaaLPart
import Derived.Deep.RegionLaw
import Derived.Deep.RegionHeld3
namespace Go.Proofs.Ytljojgpjgjfddaa
open Go.RowKit Go.Maps
set_option linter.unusedVariables false

theorem infoPart : (Try.prog.info? 32).map (fun i => (i.zero, i.size, i.bytes)) = some (some (.agg #[.int .i64 0, .slice none 0 0, .map none]), 3, 40) := by kernel_rfl
theorem infoDep : (Try.prog.info? 49).map (fun i => (i.zero, i.size, i.bytes)) = some (some (.agg #[.int .i64 0, .int .i64 0, .int .i64 0]), 3, 24) := by kernel_rfl
theorem zeroInt (w : World) : (zeroValue 3).run Try.prog w = .ok (.int .i64 0) w := by kernel_rfl
def splitErr (p : Pl) (ds : List Dp) (r : List Int) : Int :=
  if validP p ≠ 0 ∨ r.length ≠ 2 * p.cs.length then 1 else if (ds.all fun d => fitsB p d d.2.2) = false then 3 else 0
def ranksOf (cs : List Cb) (r : List Int) (i : Int) : Ens := (chansAt cs i).map fun c => (c, r.getD c.toNat 0)
def ownDeps (ds : List Dp) (i : Int) : List Dp := ds.filter fun d => d.2.2 == i
def splitPt (p : Pl) (ds : List Dp) (r : List Int) (i : Nat) : Pt := ⟨i, ownDeps ds i, ranksOf p.cs r i⟩
def splitL (p : Pl) (ds : List Dp) (r : List Int) : List Pt := (List.range p.ns.length).map (splitPt p ds r)
/-- What Split leaves where all is well: a row of parts, each with a map of its own. -/
structure SplitOk (p : Pl) (ds : List Dp) (r : List Int) (w w' : World) (g : Nat) (dv : Nat → Value) (mb : Nat → Nat) : Prop where
  fresh : w.heap.size ≤ g
  row : RBlk w' g 32 3 p.ns.length (fun i => [.int .i64 i, dv i, .map (some (mb i))])
  deps : ∀ i, i < p.ns.length → w'.ownsRow (g + 1) 49 3 (dv i) (ownDeps ds i).length ((ownDeps ds i).flatMap cD)
  maps : ∀ i, i < p.ns.length → IM w' (mb i) (ranksOf p.cs r i)
  inj : ∀ i j, i < p.ns.length → j < p.ns.length → mb i = mb j → i = j
  later : ∀ i, i < p.ns.length → g < mb i
def SplitPost (p : Pl) (ds : List Dp) (r : List Int) (w : World) (e : Ending) (w' : World) : Prop :=
  Below w.heap.size w w' ∧ ((splitErr p ds r ≠ 0 ∧ e = .returned (.tuple #[.slice none 0 0, .int .i64 (splitErr p ds r)])) ∨
    (splitErr p ds r = 0 ∧ ∃ g dv mb, e = .returned (.tuple #[.slice (some ⟨g, 0, none⟩) p.ns.length p.ns.length, .int .i64 0]) ∧ SplitOk p ds r w w' g dv mb))

def WfD (ds : List Dp) : Prop := ∀ d ∈ ds, (Lit.int .i64 d.1).wf = true ∧ (Lit.int .i64 d.2.1).wf = true ∧ (Lit.int .i64 d.2.2).wf = true
def WfI (r : List Int) : Prop := ∀ x ∈ r, (Lit.int .i64 x).wf = true

theorem split1 {p : Pl} {ds : List Dp} {r : List Int} (h : validP p ≠ 0 ∨ r.length ≠ 2 * p.cs.length) : splitErr p ds r = 1 := by unfold splitErr; rw [if_pos h]
theorem split3 {p : Pl} {ds : List Dp} {r : List Int} (h : ¬(validP p ≠ 0 ∨ r.length ≠ 2 * p.cs.length)) (h2 : (ds.all fun d => fitsB p d d.2.2) = false) : splitErr p ds r = 3 := by unfold splitErr; rw [if_neg h, if_pos h2]
theorem split0 {p : Pl} {ds : List Dp} {r : List Int} (h : ¬(validP p ≠ 0 ∨ r.length ≠ 2 * p.cs.length)) (h2 : (ds.all fun d => fitsB p d d.2.2) = true) : splitErr p ds r = 0 := by unfold splitErr; rw [if_neg h, if_neg (by rw [h2]; simp)]
theorem SplitPost.err {p : Pl} {ds : List Dp} {r : List Int} {w w' : World} {n : Int} (h : splitErr p ds r = n) (hn : n ≠ 0) (hb : Below w.heap.size w w') : SplitPost p ds r w (.returned (.tuple #[.slice none 0 0, .int .i64 n])) w' :=
  ⟨hb, .inl ⟨by rw [h]; exact hn, by rw [h]⟩⟩

theorem dep_at {w : World} {A : Option Addr} {len : Nat} {ds : List Dp} (h : IsRec 3 cD d0 w A len ds) (k : Nat) (hk : k < len) :
    ∃ b off, A = some ⟨b, off, none⟩ ∧ b < w.heap.size ∧ ds.getD k d0 ∈ ds ∧ w.cell? ⟨b, off + k * 3, none⟩ = some (.int .i64 (ds.getD k d0).1) ∧ w.cell? ⟨b, off + k * 3 + 1, none⟩ = some (.int .i64 (ds.getD k d0).2.1) ∧ w.cell? ⟨b, off + k * 3 + 1 + 1, none⟩ = some (.int .i64 (ds.getD k d0).2.2) := by
  obtain ⟨b, off, ha, hb, hc⟩ := h.2 (by omega)
  have hl : k < ds.length := by rw [h.1]; exact hk
  exact ⟨b, off, ha, hb, by simp [List.getD, hl], hc k 0 hk (by omega), hc k 1 hk (by omega), hc k 2 hk (by omega)⟩

theorem fits_any2 (ns : List Nd) (cs : List Cb) (An Ac : Option Addr) (cn cc : Nat) (df dt dn node : Int) (w : World) (hl : ns.length ≤ 1000000) (hl2 : cs.length ≤ 1000000) (h : IsPlan w An Ac ⟨ns, cs⟩) (b : Bool) (hb : fitsB ⟨ns, cs⟩ (df, dt, dn) node = b) :
    Calls Try.prog 46 #[.agg #[.slice An ns.length cn, .slice Ac cs.length cc], .agg #[.int .i64 df, .int .i64 dt, .int .i64 dn], .int .i64 node] w fun e w' =>
      e = .returned (.bool b) ∧ Below w.heap.size w w' := by
  subst hb; exact fits_any ⟨ns, cs⟩ An Ac cn cc df dt dn node w hl hl2 h

/-- The row of parts while the maps are made: the first k parts have theirs. -/
def rowTo (mb : Nat → Nat) (k : Nat) (i : Nat) : List Value := if i < k then [.int .i64 i, .slice none 0 0, .map (some (mb i))] else [.int .i64 0, .slice none 0 0, .map none]
def RelM (cs : List Cb) (r : List Int) (n g : Nat) (w1 : World) (i : Value) (wr : World) : Prop :=
  ∃ (k : Nat) (mb : Nat → Nat), k ≤ n ∧ i = .int .i64 k ∧ RBlk wr g 32 3 n (rowTo mb k) ∧ (∀ i, i < k → IM wr (mb i) (ranksOf cs r i)) ∧ (∀ i, i < k → g < mb i) ∧ (∀ i j, i < k → j < k → mb i = mb j → i = j) ∧ Below g w1 wr
/-- One map is filled. -/
def RelF (l : List Int) (r : List Int) (b : Nat) (w3 : World) (i : Value) (wr : World) : Prop :=
  ∃ q : Nat, q ≤ l.length ∧ i = .int .i64 q ∧ IM wr b ((l.take q).map fun c => (c, r.getD c.toNat 0)) ∧ w3.grownBy wr (some b)

/-- The dependencies are handed out: each part has those of the first k that are its own. -/
def RelD (ds : List Dp) (n g : Nat) (cs : List Cb) (r : List Int) (mb : Nat → Nat) (w3 : World) (i : Value) (wr : World) : Prop :=
  ∃ (k : Nat) (dv : Nat → Value), k ≤ ds.length ∧ i = .int .i64 k ∧ RBlk wr g 32 3 n (fun i => [.int .i64 i, dv i, .map (some (mb i))]) ∧
    (∀ i, i < n → wr.ownsRow (g + 1) 49 3 (dv i) (ownDeps (ds.take k) i).length ((ownDeps (ds.take k) i).flatMap cD)) ∧ (∀ i j, i < n → j < n → i ≠ j → (dv i).ownBlock = none ∨ (dv i).ownBlock ≠ (dv j).ownBlock) ∧
    (∀ i, i < n → IM wr (mb i) (ranksOf cs r i)) ∧ Below g w3 wr
theorem own_snoc (ds : List Dp) (k : Nat) (hk : k < ds.length) (i : Int) : ownDeps (ds.take (k + 1)) i = ownDeps (ds.take k) i ++ (if (ds.getD k d0).2.2 == i then [ds.getD k d0] else []) := by
  unfold ownDeps
  rw [take_snocG d0 ds k hk, List.filter_append, List.filter_cons]
  split <;> rfl
theorem own_le (ds : List Dp) (k : Nat) (i : Int) : (ownDeps (ds.take k) i).length ≤ k := by
  unfold ownDeps
  have := List.length_filter_le (fun d : Dp => d.2.2 == i) (ds.take k)
  rw [List.length_take] at this
  omega
theorem fits_node {p : Pl} {f t n : Int} (h : fitsB p (f, t, n) n = true) : 0 ≤ n ∧ n < p.ns.length := by
  unfold fitsB isNodeB at h
  simp only [Bool.and_eq_true, decide_eq_true_eq] at h
  exact h.1.1.1.1.1
theorem relD_step {ds : List Dp} {n g : Nat} {cs : List Cb} {r : List Int} {mb : Nat → Nat} {w3 wa w2 : World} {k : Nat} {dv : Nat → Value} {df dt : Int} {j : Nat} {o : Obj} {v2 : Value} {a3 : Option Addr} {m cap3 : Nat}
    (hk : k < ds.length) (hj : j < n) (hd : ds.getD k d0 = (df, dt, (j : Int))) (rba : RBlk wa g 32 3 n (fun i => [.int .i64 i, dv i, .map (some (mb i))]))
    (owa : ∀ i, i < n → wa.ownsRow (g + 1) 49 3 (dv i) (ownDeps (ds.take k) i).length ((ownDeps (ds.take k) i).flatMap cD)) (msa : ∀ i, i < n → IM wa (mb i) (ranksOf cs r i)) (bela : Below g w3 wa)
    (hsep : ∀ i j, i < n → j < n → i ≠ j → (dv i).ownBlock = none ∨ (dv i).ownBlock ≠ (dv j).ownBlock)
    {vj : Value} (hvj : dv j = vj) (own2 : w2.ownsRow (g + 1) 49 3 v2 ((ownDeps (ds.take k) j).length + 1) ((ownDeps (ds.take k) j).flatMap cD ++ cD (df, dt, (j : Int)))) (gr2 : (wa.alloc o).drew.grownBy w2 vj.ownBlock)
    (loc2 : v2.ownBlock = vj.ownBlock ∨ v2.ownBlock = some (wa.alloc o).drew.heap.size) (hv3 : v2 = .slice a3 m cap3) :
    RelD ds n g cs r mb w3 (.int .i64 ((k + 1 : Nat) : Int)) (w2.setCell ⟨g, j * 3 + 1, none⟩ (.slice a3 m cap3)) := by
  subst hvj
  have gl := rba.lt
  have nb : some g ≠ (dv j).ownBlock := fun e => by have := (owa j hj).lt g e.symm; omega
  have sz : wa.heap.size + 1 ≤ w2.heap.size := by have := gr2.size; simpa using this
  have hown_lt : ∀ i, i < n → ∀ q, (dv i).ownBlock = some q → q < wa.heap.size := fun i hi q e => ((owa i hi).lt q e).2
  have rb2 : RBlk w2 g 32 3 n (fun i => [.int .i64 i, dv i, .map (some (mb i))]) := ((rba.alloc o).drew).grown gr2 nb
  refine ⟨k + 1, fun i => if i = j then v2 else dv i, by omega, rfl, ?_, fun i hi => ?_, fun i i' hi hi' hne => ?_, fun i hi => ?_, ?_⟩
  · rw [hv3]
    refine (rb2.set_ (j := 1) hj (by omega) _).congr fun i hi => ?_
    unfold setR
    by_cases e : i = j
    · subst e; simp
    · simp [e]
  · have far : ∀ (v : Value) (q : Nat) (xs : List Value), w2.ownsRow (g + 1) 49 3 v q xs → (w2.setCell ⟨g, j * 3 + 1, none⟩ (.slice a3 m cap3)).ownsRow (g + 1) 49 3 v q xs := by
      intro v q xs h
      refine h.kept (row := some g) (only_setCell (only_refl _ _) (.inl rfl) _) ?_
      cases hb : v.ownBlock with
      | none => exact .inl rfl
      | some q => exact .inr (fun e => by injection e with e; have := (h.lt q hb).1; omega)
    by_cases e : i = j
    · subst e
      simp only [if_true]
      rw [own_snoc ds k hk, hd]
      simp only [beq_self_eq_true, if_true, List.length_append, List.length_singleton, List.flatMap_append, List.flatMap_cons, List.flatMap_nil, List.append_nil]
      exact far _ _ _ own2
    · simp only [if_neg e]
      rw [own_snoc ds k hk, hd]
      have : ((j : Int) == (i : Int)) = false := by rw [beq_eq_false_iff_ne]; omega
      simp only [this, Bool.false_eq_true, if_false, List.append_nil]
      refine far _ _ _ (((owa i hi).alloc o).drew.kept gr2 ?_)
      exact hsep i j hi hj e
  · by_cases e : i = j <;> by_cases e' : i' = j
    · omega
    · simp only [if_pos e, if_neg e']
      rcases loc2 with h | h
      · rcases hsep j i' hj hi' (by omega) with h2 | h2
        · left; rw [h, h2]
        · right; rw [h]; exact h2
      · right; rw [h]; intro e2; have := hown_lt i' hi' _ e2.symm; simp at this; omega
    · simp only [if_neg e, if_pos e']
      rcases loc2 with h | h
      · rw [h]; exact hsep i j hi hj e
      · rw [h]
        cases hb : (dv i).ownBlock with
        | none => exact .inl rfl
        | some q => right; intro e2; injection e2 with e2; have := hown_lt i hi _ hb; simp at e2; omega
    · simp only [if_neg e, if_neg e']
      exact hsep i i' hi hi' hne
  · have h1 := ((msa i hi).alloc o).drew
    have h2 : IM w2 (mb i) (ranksOf cs r i) := h1.kept gr2 ((msa i hi).ne_own (owa j hj))
    exact h2.setCell (h2.ne_blk (rb2.choose_spec.1)) _
  · exact (((bela.alloc (by omega) o).drew).grown gr2 (by simp; omega) (fun q e => by have := ((owa j hj).lt q e).1; omega)).setCell (Nat.le_refl _) _
theorem wf_small (n : Int) (h0 : -1000000000000000000 ≤ n) (h1 : n ≤ 1000000000000000000) : (Lit.int .i64 n).wf = true := by
  have e1 : IntKind.i64.min = -9223372036854775808 := by decide
  have e2 : IntKind.i64.max = 9223372036854775807 := by decide
  simp only [Lit.wf, Bool.and_eq_true, decide_eq_true_eq, e1, e2]
  omega
theorem int_at {w : World} {A : Option Addr} {len : Nat} {l : List Int} (h : IsRec 1 cI 0 w A len l) (k : Nat) (hk : k < len) :
    ∃ b off, A = some ⟨b, off, none⟩ ∧ b < w.heap.size ∧ l.getD k 0 ∈ l ∧ w.cell? ⟨b, off + k, none⟩ = some (.int .i64 (l.getD k 0)) := by
  obtain ⟨b, off, ha, hb, hc⟩ := h.2 (by omega)
  have hl : k < l.length := by rw [h.1]; exact hk
  refine ⟨b, off, ha, hb, by simp [List.getD, hl], ?_⟩
  have := hc k 0 hk (by omega)
  simpa [cI] using this
theorem map_put_snoc (l : List Int) (f : Int → Int) (q : Nat) (hq : q < l.length) (hn : l.Nodup) : putE ((l.take q).map fun c => (c, f c)) (l.getD q 0) (f (l.getD q 0)) = (l.take (q + 1)).map fun c => (c, f c) := by
  rw [take_snocG 0 l q hq, List.map_append, putE_new]
  · rfl
  · have e : keysE ((l.take q).map fun c => (c, f c)) = l.take q := by
      unfold keysE; rw [List.map_map]; exact List.map_id _
    rw [e]
    intro hm
    rw [List.mem_take_iff_getElem] at hm
    obtain ⟨i, hi, he⟩ := hm
    have h2 : l.getD q 0 = l[q] := by simp [List.getD, hq]
    rw [h2] at he
    exact (List.pairwise_iff_getElem.1 hn) i q (by omega) hq (by omega) he

theorem chTo_mem (cs : List Cb) (node : Int) (k : Nat) (c : Int) (h : c ∈ chTo cs node k) : 0 ≤ c ∧ c < 2 * k := by
  unfold chTo at h
  rw [List.mem_flatMap] at h
  obtain ⟨i, hi, hc⟩ := h
  rw [List.mem_range] at hi
  split at hc
  · simp at hc; omega
  · simp at hc
theorem chTo_nodup (cs : List Cb) (node : Int) (k : Nat) : (chTo cs node k).Nodup := by
  induction k with
  | zero => exact List.nodup_nil
  | succ k ih =>
    rw [chTo_succ, List.nodup_append]
    refine ⟨ih, ?_, ?_⟩
    · split
      · simp; omega
      · exact List.nodup_nil
    · intro a ha c hc
      have := chTo_mem cs node k a ha
      split at hc
      · simp at hc; omega
      · simp at hc

set_option maxRecDepth 100000 in
set_option maxHeartbeats 8000000 in
theorem split_any (p : Pl) (An Ac Ad Ar : Option Addr) (cn cc cd cr : Nat) (ds : List Dp) (r : List Int) (w : World) (hl : p.ns.length ≤ 1000000) (hl2 : p.cs.length ≤ 1000000) (hwf : WfP p) (hld : ds.length ≤ 1000000) (hlr : r.length ≤ 1000000)
    (hwd : WfD ds) (hwr : WfI r) (h : IsPlan w An Ac p) (hd : IsRec 3 cD d0 w Ad ds.length ds) (hr : IsRec 1 cI 0 w Ar r.length r) :
    Calls Try.prog 19 #[.agg #[.slice An p.ns.length cn, .slice Ac p.cs.length cc], .slice Ad ds.length cd, .slice Ar r.length cr] w (SplitPost p ds r w) := by
  obtain ⟨ns, cs⟩ := p
  simp only at hl hl2 ⊢
  have HW := Lib.hid hwf
  have HWD := Lib.hid hwd
  have HWR := Lib.hid hwr
  obtain ⟨w1, hw1⟩ : ∃ w1 : World, w.alloc (.cells #[.slice An ns.length cn, .slice Ac cs.length cc] 25) = w1 := ⟨_, rfl⟩
  have s0 : w1.cell? ⟨w.heap.size, 0, none⟩ = some (.slice An ns.length cn) := by rw [← hw1]; simp [go_sem]
  have s1 : w1.cell? ⟨w.heap.size, 1, none⟩ = some (.slice Ac cs.length cc) := by rw [← hw1]; simp [go_sem]
  have sz : w1.heap.size = w.heap.size + 1 := by rw [← hw1]; simp
  have sz1 : w.heap.size < w1.heap.size := by omega
  have H1 : Hid (IsPlan w1 An Ac ⟨ns, cs⟩) := by rw [Hid, ← hw1]; exact h.alloc _
  have D1 : Hid (IsRec 3 cD d0 w1 Ad ds.length ds) := by rw [Hid, ← hw1]; exact hd.alloc _
  have R1 : Hid (IsRec 1 cI 0 w1 Ar r.length r) := by rw [Hid, ← hw1]; exact hr.alloc _
  have BW : Hid (Below w.heap.size w w1) := by rw [Hid, ← hw1]; exact (Below.refl _ _).alloc (Nat.le_refl _) _
  have HW1 := Lib.hid hw1
  clear h hd hr hw1 hwf hwd hwr sz
  by_cases hv : validP ⟨ns, cs⟩ = 0
  · by_cases hrl : r.length = 2 * cs.length
    · have V : Hid (¬(validP (⟨ns, cs⟩ : Pl) ≠ 0 ∨ r.length ≠ 2 * (⟨ns, cs⟩ : Pl).cs.length)) := by
        rintro (h | h)
        · exact h hv
        · exact h hrl
      have HV := Lib.hid hv
      have HRL := Lib.hid hrl
      have q1 : ((r.length : Int) != 2 * (cs.length : Int)) = false := by simp; omega
      clear hv hrl
      have hmm := @run_makeMap Try.prog
      go_enter Try.func19, Try.ntmps19
      go_wp2_with fail
      rw [HW1.out]
      refine (gvalid_any ⟨ns, cs⟩ An Ac cn cc _ hl hl2 HW.out H1.out).mono ?_
      rintro e w2 ⟨rfl, bel2⟩
      rw [HV.out]
      have BW2 := Lib.hid (BW.out.trans (bel2.mono (by omega)))
      have u0 : w2.cell? ⟨w.heap.size, 0, none⟩ = some (.slice An ns.length cn) := by rw [bel2.cell (by exact sz1)]; exact s0
      have u1 : w2.cell? ⟨w.heap.size, 1, none⟩ = some (.slice Ac cs.length cc) := by rw [bel2.cell (by exact sz1)]; exact s1
      have U0 := Lib.hid u0
      have U1 := Lib.hid u1
      have H2 := Lib.hid (H1.out.below (Nat.le_refl _) bel2)
      have D2 := Lib.hid (D1.out.below (Nat.le_refl _) bel2)
      have R2 := Lib.hid (R1.out.below (Nat.le_refl _) bel2)
      have sz2 : w.heap.size < w2.heap.size := by have := bel2.size; omega
      clear bel2 s0 s1 H1 D1 R1 BW HW1 sz1
      go_wp2_with fail
      go_loopw [30] (fun i wr => RelAll (fun d : Dp => fitsB ⟨ns, cs⟩ d d.2.2) ds w2.heap.size w2 i wr) (fun i _ => ds.length - (RowKit.intOf i).toNat)
      case atStart => exact ⟨0, Nat.zero_le _, rfl, rfl, Below.refl _ _⟩
      case round =>
        clear u0 u1
        obtain ⟨k, hk, rfl, hall, bel⟩ := hrel
        have bs := bel.size
        have HA := Lib.hid hall
        clear hall
        have v0 : wr.cell? ⟨w.heap.size, 0, none⟩ = some (.slice An ns.length cn) := by rw [bel.cell (by exact sz2)]; exact U0.out
        have v1 : wr.cell? ⟨w.heap.size, 1, none⟩ = some (.slice Ac cs.length cc) := by rw [bel.cell (by exact sz2)]; exact U1.out
        have bwr : w.heap.size < wr.heap.size := by omega
        by_cases hkr : k < ds.length
        · obtain ⟨bb, off, ha, hbb, hmem, c0, c1, c2⟩ := dep_at (D2.out.below (Nat.le_refl _) bel) k hkr
          have AS := Lib.hid (all_snoc (fun d : Dp => fitsB ⟨ns, cs⟩ d d.2.2) d0 ds k hkr)
          have AB := Lib.hid (all_bad (fun d : Dp => fitsB ⟨ns, cs⟩ d d.2.2) d0 ds k hkr)
          generalize ds.getD k d0 = x at *
          obtain ⟨df, dt, dn⟩ := x
          simp only at c0 c1 c2 AS AB
          subst ha
          clear hmem
          have HP3 := Lib.hid ((H2.out.below (Nat.le_refl _) bel).alloc (.cells #[.int .i64 df, .int .i64 dt, .int .i64 dn] 49))
          have B3 := Lib.hid (bel.alloc bs (.cells #[.int .i64 df, .int .i64 dt, .int .i64 dn] 49))
          cases hx : fitsB ⟨ns, cs⟩ (df, dt, dn) dn with
          | false =>
            have FIN := Lib.hid (split3 (p := ⟨ns, cs⟩) (ds := ds) (r := r) V.out (AB.out hx))
            have HX := Lib.hid hx
            clear hx AS AB HA V
            go_wp2_with fail
            refine (fits_any2 ns cs An Ac cn cc df dt dn dn _ hl hl2 HP3.out _ HX.out).mono ?_
            rintro e w4 ⟨rfl, bel4⟩
            have BW4 : Hid (Below w.heap.size w w4) := BW2.out.trans ((B3.out.mono (by omega)).trans (bel4.mono (by simp; omega)))
            clear bel4
            go_wp2_with fail
            go_ret2
            exact SplitPost.err FIN.out (by decide) BW4.out
          | true =>
            have HX := Lib.hid hx
            have HA2 : Hid ((ds.take (k + 1)).all (fun d : Dp => fitsB ⟨ns, cs⟩ d d.2.2) = true) := by rw [Hid, AS.out, HA.out, hx]; rfl
            clear hx AS AB HA V
            go_wp2_with fail
            refine (fits_any2 ns cs An Ac cn cc df dt dn dn _ hl hl2 HP3.out _ HX.out).mono ?_
            rintro e w4 ⟨rfl, bel4⟩
            have R : Hid (RelAll (fun d : Dp => fitsB ⟨ns, cs⟩ d d.2.2) ds w2.heap.size w2 (.int .i64 ((k + 1 : Nat) : Int)) w4) :=
              ⟨k + 1, by omega, rfl, HA2.out, B3.out.trans (bel4.mono (by simp; omega))⟩
            clear bel4
            go_wp2_with fail
            exact ⟨by simpa using R.out, by simp [RowKit.intOf]; omega⟩
        · obtain rfl : k = ds.length := by omega
          rw [List.take_length] at HA
          have OK0 := Lib.hid (split0 (p := ⟨ns, cs⟩) (ds := ds) (r := r) V.out HA.out)
          have BW3 := Lib.hid (BW2.out.trans (bel.mono (by omega)))
          have H3 := Lib.hid (H2.out.below (Nat.le_refl _) bel)
          have D3 := Lib.hid (D2.out.below (Nat.le_refl _) bel)
          have R3 := Lib.hid (R2.out.below (Nat.le_refl _) bel)
          clear BW2 H2 D2 R2 U0 U1 bel bs hk hkr sz2
          obtain ⟨w3, rfl⟩ : ∃ w3 : World, w3 = wr := ⟨_, rfl⟩
          have V0 := Lib.hid v0
          have V1 := Lib.hid v1
          obtain ⟨i0, hi0, hz0, hz1, hz2⟩ := info_parts infoPart
          go_wp2_with (at_make; refine wpList_make_full _ rfl _ _ 26 rfl 0 32 i0 _ 3 Try.underlying26 hi0 hz0 hz1 .i64 .i64 _ _ ns.length rfl rfl rfl rfl ?m1 ?m2 ?m3 ?_)
          case m1 => rw [hz2]; omega
          case m2 => unfold maxLen; omega
          case m3 => omega
          intro w4 own4 gr4
          have RB4 : RBlk w4 w3.heap.size 32 3 ns.length (fun _ => [.int .i64 0, .slice none 0 0, .map none]) := RBlk.of_own (cap := 0) (z := #[.int .i64 0, .slice none 0 0, .map none]) rfl (by decide) own4
          have B4 : Hid (Below w3.heap.size w3 w4) := ⟨gr4.os, gr4.tape, gr4.output, gr4.size, fun i hi => gr4.block i hi (by simp)⟩
          have ST : Hid (RelM cs r ns.length w3.heap.size w3 (.int .i64 0) w4) :=
            ⟨0, fun _ => 0, Nat.zero_le _, rfl, RB4.congr fun i _ => by simp [rowTo], fun i h => absurd h (by omega), fun i h => absurd h (by omega), fun i j h => absurd h (by omega), B4.out⟩
          clear own4 gr4 B4 RB4 hi0 hz0 hz1 hz2
          go_wp2_with fail
          go_loopw [47] (fun i wr => RelM cs r ns.length w3.heap.size w3 i wr) (fun i _ => ns.length - (RowKit.intOf i).toNat)
          case atStart => exact ST.out
          case round =>
            obtain ⟨k, mb, hk, rfl, rb, hms, hlat, hinj, bel⟩ := hrel
            have bs := bel.size
            have HMS := Lib.hid hms
            have HLAT := Lib.hid hlat
            have HINJ := Lib.hid hinj
            clear hms hlat hinj ST v0 v1
            have v0 : wr.cell? ⟨w.heap.size, 0, none⟩ = some (.slice An ns.length cn) := by rw [bel.cell (by exact bwr)]; exact V0.out
            have v1 : wr.cell? ⟨w.heap.size, 1, none⟩ = some (.slice Ac cs.length cc) := by rw [bel.cell (by exact bwr)]; exact V1.out
            have bwq : w.heap.size < wr.heap.size := by omega
            have gl := rb.lt
            by_cases hkr : k < ns.length
            · have e0 : wr.cell? ⟨w3.heap.size, k * 3, none⟩ = some (.int .i64 0) := by have := rb.cell (j := 0) hkr (by omega); simpa [rowTo] using this
              have e1 : wr.cell? ⟨w3.heap.size, k * 3 + 1, none⟩ = some (.slice none 0 0) := by have := rb.cell (j := 1) hkr (by omega); simpa [rowTo] using this
              have e2 : wr.cell? ⟨w3.heap.size, k * 3 + 1 + 1, none⟩ = some (.map none) := by have := rb.cell (j := 2) hkr (by omega); simpa [rowTo] using this
              have f0 : wr.frozen? ⟨w3.heap.size, k * 3, none⟩ = false := rb.frozen _
              have f1 : wr.frozen? ⟨w3.heap.size, k * 3 + 1, none⟩ = false := rb.frozen _
              have f2 : wr.frozen? ⟨w3.heap.size, k * 3 + 1 + 1, none⟩ = false := rb.frozen _
              have ne1 : w3.heap.size ≠ w.heap.size := by omega
              obtain ⟨w5, hw5⟩ : ∃ w5 : World, ((((wr.setCell ⟨w3.heap.size, k * 3, none⟩ (.int .i64 k)).setCell ⟨w3.heap.size, k * 3 + 1, none⟩ (.slice none 0 0)).setCell ⟨w3.heap.size, k * 3 + 2, none⟩ (.map (some wr.heap.size))).alloc (.map #[] 0)) = w5 := ⟨_, rfl⟩
              have rb5 : RBlk w5 w3.heap.size 32 3 ns.length (rowTo (fun i => if i = k then wr.heap.size else mb i) (k + 1)) := by
                rw [← hw5]
                refine ((((rb.set_ (j := 0) hkr (by omega) _).set_ (j := 1) hkr (by omega) _).set_ (j := 2) hkr (by omega) _).alloc _).congr fun i hi => ?_
                unfold setR rowTo
                by_cases e : i = k
                · subst e; simp
                · by_cases e3 : i < k
                  · have : i < k + 1 := by omega
                    simp [e, e3, this]
                  · have : ¬ i < k + 1 := by omega
                    simp [e, e3, this]
              have sz5 : w5.heap.size = wr.heap.size + 1 := by rw [← hw5]; simp
              have B5 : Below w3.heap.size w3 w5 := by
                rw [← hw5]
                exact (((bel.setCell (Nat.le_refl _) _).setCell (Nat.le_refl _) _).setCell (Nat.le_refl _) _).alloc (by simp; omega) _
              have M5 : IM w5 wr.heap.size [] := by
                rw [← hw5]
                have := IMap.made (((wr.setCell ⟨w3.heap.size, k * 3, none⟩ (.int .i64 k)).setCell ⟨w3.heap.size, k * 3 + 1, none⟩ (.slice none 0 0)).setCell ⟨w3.heap.size, k * 3 + 2, none⟩ (.map (some wr.heap.size))) Try.prog 3 3
                simpa using this
              have MS5 : Hid (∀ i, i < k → IM w5 (mb i) (ranksOf cs r i)) := by
                intro i hi
                rw [← hw5]
                have h1 := HLAT.out i hi
                exact ((((HMS.out i hi).setCell (by simp; omega) _).setCell (by simp; omega) _).setCell (by simp; omega) _).alloc _
              have HML : Hid (∀ i, i < k → mb i < wr.heap.size) := fun i hi => (HMS.out i hi).lt
              have HW5 := Lib.hid hw5
              clear hw5
              go_wp2_with fail
              rw [HW5.out]
              clear HW5 HMS rb e0 e1 e2 f0 f1 f2 bel v0 v1
              generalize wr.heap.size = b at *
              refine (chansat_any cs An Ac ns.length cn cc k _ hl2 (H3.out.2.below (Nat.le_refl _) B5)).mono ?_
              rintro e w6 ⟨v, rfl, own6, bel6⟩
              obtain ⟨Al, cl, rfl, hcl, rec6, hA6⟩ := rec_of_own (d := (0 : Int)) cI_length (by decide) own6
              have rb6 := Lib.hid (rb5.below bel6 rb5.lt)
              have M6 := Lib.hid (M5.below bel6 (by omega))
              have MS6 : Hid (∀ i, i < k → IM w6 (mb i) (ranksOf cs r i)) := fun i hi => (MS5.out i hi).below bel6 (by have := HML.out i hi; omega)
              have B6 := Lib.hid (B5.trans (bel6.mono (by have := rb5.lt; omega)))
              have L6 := Lib.hid rec6
              have HA6 := Lib.hid hA6
              have R6 := Lib.hid (R3.out.below (Nat.le_refl _) B6.out)
              have ll : (chansAt cs k).length ≤ 2 * cs.length := chTo_length cs k cs.length
              have s6 := bel6.size
              have g5 := rb5.lt
              clear own6 bel6 rec6 hA6 rb5 M5 MS5 B5 hcl
              have RG : Hid (ranksOf cs r k = (chansAt cs k).map fun c => (c, r.getD c.toNat 0)) := rfl
              have WL : Hid (∀ c ∈ chansAt cs k, 0 ≤ c ∧ c < 2 * cs.length) := fun c hc => chTo_mem cs k cs.length c hc
              have ND : Hid ((chansAt cs k).Nodup) := chTo_nodup cs k cs.length
              generalize chansAt cs k = l at *
              go_wp2_with fail
              go_loopw [60] (fun i wr => RelF l r b w6 i wr) (fun i _ => l.length - (RowKit.intOf i).toNat)
              case atStart => exact ⟨0, Nat.zero_le _, rfl, M6.out, only_refl _ _⟩
              case round =>
                obtain ⟨q, hq, rfl, mq, grq⟩ := hrel
                have gs := grq.size
                by_cases hqr : q < l.length
                · obtain ⟨bl, offl, ha, hbl, hmem, cl0⟩ := int_at (L6.out.grown grq (fun x e => by have := HA6.out x e; simp; omega)) q hqr
                  have wl := WL.out _ hmem
                  have PS := Lib.hid (map_put_snoc l (fun c => r.getD c.toNat 0) q hqr ND.out)
                  generalize l.getD q 0 = c at *
                  obtain ⟨c0, c1⟩ := wl
                  obtain ⟨ci, rfl⟩ : ∃ ci : Nat, c = ci := ⟨c.toNat, by omega⟩
                  have hrl := HRL.out
                  obtain ⟨bq, offq, har, hbr, hmr, cr0⟩ := int_at (R6.out.grown grq (fun x e => by
                    have h0 := R3.out.2 (by omega)
                    obtain ⟨b', off', ha', hb', _⟩ := h0
                    rw [ha'] at e
                    injection e with e
                    subst e
                    simp
                    omega)) ci (by omega)
                  have wfr := HWR.out _ hmr
                  have rbq := rb6.out.grown grq (by simp; omega)
                  have e2 : wr.cell? ⟨w3.heap.size, k * 3 + 2, none⟩ = some (.map (some b)) := by
                    have := rbq.cell (i := k) (j := 2) hkr (by omega)
                    simpa [rowTo] using this
                  have wfc : (Lit.int .i64 (ci : Int)).wf = true := wf_small _ (by omega) (by omega)
                  have ln : ((l.take q).map fun c => (c, r.getD c.toNat 0)).length < maxLen := by simp [maxLen]; omega
                  have LN := Lib.hid ln
                  subst ha
                  subst har
                  rw [Int.toNat_natCast] at PS
                  generalize r.getD ci 0 = rv at *
                  have MQ := Lib.hid mq
                  have cir : ci < r.length := by omega
                  clear mq hmem hmr hrl rbq ln
                  obtain ⟨w7, hrun, m7, gr7⟩ := (IMap.drew MQ.out).store (t := 30) Try.underlying3 Try.underlying3 Try.underlying30 LN.out wfc wfr
                  rw [PS.out] at m7
                  have R : Hid (RelF l r b w6 (.int .i64 ((q + 1 : Nat) : Int)) w7) := ⟨q + 1, by omega, rfl, m7, only_trans grq (only_trans (only_drew (only_refl _ _)) gr7)⟩
                  clear m7 gr7 grq
                  go_wp2_with fail
                  go_region
                  all_goals
                    go_wp2_with fail
                    exact ⟨by simpa using R.out, by simp [RowKit.intOf]; omega⟩
                · obtain rfl : q = l.length := by omega
                  rw [List.take_length, ← RG.out] at mq
                  have R : Hid (RelM cs r ns.length w3.heap.size w3 (.int .i64 ((k + 1 : Nat) : Int)) wr) := by
                    refine ⟨k + 1, fun i => if i = k then b else mb i, by omega, rfl, rb6.out.grown grq (by simp; omega), fun i hi => ?_, fun i hi => ?_, fun i j hi hj e => ?_, B6.out.grown grq (by have := B6.out.size; omega) (by intro g e; injection e with e; omega)⟩
                    · by_cases e : i = k
                      · subst e; simp only [if_true]; exact mq
                      · simp only [if_neg e]
                        have h1 := HML.out i (by omega)
                        exact (MS6.out i (by omega)).kept grq (by simp; omega)
                    · by_cases e : i = k
                      · subst e; simp only [if_true]; omega
                      · simp only [if_neg e]; exact HLAT.out i (by omega)
                    · by_cases e1 : i = k <;> by_cases e2 : j = k
                      · omega
                      · simp only [if_pos e1, if_neg e2] at e
                        have := HML.out j (by omega); omega
                      · simp only [if_neg e1, if_pos e2] at e
                        have := HML.out i (by omega); omega
                      · simp only [if_neg e1, if_neg e2] at e
                        exact HINJ.out i j (by omega) (by omega) e
                  clear mq grq
                  go_wp2_with fail
                  exact ⟨by simpa using R.out, by simp [RowKit.intOf]; omega⟩
            · obtain rfl : k = ns.length := by omega
              have RB : Hid (RBlk wr w3.heap.size 32 3 ns.length (fun i => [.int .i64 i, .slice none 0 0, .map (some (mb i))])) := rb.congr fun i hi => by simp [rowTo, hi]
              have B4 := Lib.hid bel
              have ST4 : Hid (RelD ds ns.length w3.heap.size cs r mb w3 (.int .i64 0) wr) :=
                ⟨0, fun _ => .slice none 0 0, Nat.zero_le _, rfl, RB.out, fun i hi => by simpa [ownDeps] using World.ownsRow_nil wr (w3.heap.size + 1) 49 3, fun i j hi hj hne => .inl rfl, HMS.out, bel⟩
              clear HMS rb RB bel B4 bs gl v0 v1 hk hkr
              obtain ⟨wm, rfl⟩ : ∃ wm : World, wm = wr := ⟨_, rfl⟩
              go_wp2_with fail
              go_loopw [78] (fun i wr => RelD ds ns.length w3.heap.size cs r mb w3 i wr) (fun i _ => ds.length - (RowKit.intOf i).toNat)
              case atStart => exact ST4.out
              case round =>
                obtain ⟨k, dv, hk, rfl, rb, hown, hsep, hms, bel⟩ := hrel
                have bs := bel.size
                have gl := rb.lt
                by_cases hkr : k < ds.length
                · obtain ⟨bb, off, ha, hbb, hmem, c0, c1, c2⟩ := dep_at (D3.out.below (Nat.le_refl _) bel) k hkr
                  have hfit := List.all_eq_true.1 HA.out _ hmem
                  have OS := Lib.hid (own_snoc ds k hkr)
                  have hlk : ∀ i : Int, (ownDeps (ds.take k) i).length ≤ k := fun i => own_le ds k i
                  have HLK := Lib.hid hlk
                  generalize hgd : ds.getD k d0 = x at *
                  obtain ⟨df, dt, dn⟩ := x
                  simp only at c0 c1 c2 hfit
                  obtain ⟨hd0, hd1⟩ := fits_node hfit
                  obtain ⟨j, rfl⟩ : ∃ j : Nat, dn = j := ⟨dn.toNat, by omega⟩
                  have hj : j < ns.length := by simp only at hd1; omega
                  subst ha
                  have HD := Lib.hid hgd
                  clear hmem hfit hlk hd0 hd1 hgd
                  obtain ⟨wa, hwa⟩ : ∃ wa : World, wr.alloc (.cells #[.int .i64 df, .int .i64 dt, .int .i64 (j : Int)] 49) = wa := ⟨_, rfl⟩
                  have rba : RBlk wa w3.heap.size 32 3 ns.length (fun i => [.int .i64 i, dv i, .map (some (mb i))]) := hwa ▸ rb.alloc _
                  have owa : Hid (∀ i, i < ns.length → wa.ownsRow (w3.heap.size + 1) 49 3 (dv i) (ownDeps (ds.take k) i).length ((ownDeps (ds.take k) i).flatMap cD)) := fun i hi => hwa ▸ (hown i hi).alloc _
                  have msa : Hid (∀ i, i < ns.length → IM wa (mb i) (ranksOf cs r i)) := fun i hi => hwa ▸ (hms i hi).alloc _
                  have bela : Below w3.heap.size w3 wa := hwa ▸ bel.alloc bs _
                  have ta : Blk wa wr.heap.size 49 #[.int .i64 df, .int .i64 dt, .int .i64 (j : Int)] := hwa ▸ Blk.new _ _ _
                  have ols : Hid (∀ i, i < ns.length → ∀ g, (dv i).ownBlock = some g → w3.heap.size < g ∧ g < wr.heap.size) := fun i hi g e => by have := (hown i hi).lt g e; omega
                  have HSEP := Lib.hid hsep
                  have HWA := Lib.hid hwa
                  clear hwa hsep hown hms
                  go_wp2_with fail
                  rw [HWA.out]
                  clear HWA rb bel c0 c1 c2
                  have sza : wr.heap.size < wa.heap.size := ta.lt
                  have ga : w3.heap.size < wa.heap.size := rba.lt
                  generalize wr.heap.size = tb at *
                  have ct0 : wa.cell? ⟨tb, 0, none⟩ = some (.int .i64 df) := ta.cell 0
                  have ct1 : wa.cell? ⟨tb, 1, none⟩ = some (.int .i64 dt) := ta.cell 1
                  have ct2 : wa.cell? ⟨tb, 2, none⟩ = some (.int .i64 (j : Int)) := ta.cell 2
                  have cg1 : wa.cell? ⟨w3.heap.size, j * 3 + 1, none⟩ = some (dv j) := rba.cell (j := 1) hj (by omega)
                  have fg1 : wa.frozen? ⟨w3.heap.size, j * 3 + 1, none⟩ = false := rba.frozen _
                  have nb1 : some w3.heap.size ≠ (dv j).ownBlock := fun e => by have := ols.out j hj _ e.symm; omega
                  have nb2 : some tb ≠ (dv j).ownBlock := fun e => by have := ols.out j hj _ e.symm; omega
                  have TA := Lib.hid ta
                  have RBA := Lib.hid rba
                  have BEA := Lib.hid bela
                  have lk := HLK.out (j : Int)
                  have OWJ := Lib.hid (owa.out j hj)
                  have OG := Lib.hid (ols.out j hj)
                  generalize hvj : dv j = vj at *
                  have HVJ := Lib.hid hvj
                  clear hvj ta rba bela
                  obtain ⟨i0, hi0, hz0, hz1, hz2⟩ := info_parts infoDep
                  have RD : Hid (Reads (wa.alloc (.cells #[.int .i64 df, .int .i64 dt, .int .i64 (j : Int)] 49)).drew (wa.heap.size + 1) 3 (some ⟨wa.heap.size, 0, none⟩) 1 (cD (df, dt, (j : Int)))) := by
                    refine ⟨rfl, fun _ => ⟨_, rfl, by simp, fun q u hu => ?_⟩⟩
                    exact World.news_of_block (cs := #[.int .i64 df, .int .i64 dt, .int .i64 (j : Int)]) (t := 49) (fr := (0, 0)) (heap_alloc_new wa _) q u hu
                  go_region_law
                    (first
                      | (refine step_append_any _ (by rfl) (.tmp 90) (.tmp 92) 29 (by rfl) (w3.heap.size + 1) 49 i0 _ 3 24 Try.underlying29 hi0 hz0 hz1 hz2 rfl (by decide) _ _ _ (by rfl) ((OWJ.out.alloc _).drew) _ (some ⟨wa.heap.size, 0, none⟩) 1 1 (cD (df, dt, (j : Int))) (by rfl) RD.out (by intro u hu; simp [cD] at hu; rcases hu with rfl | rfl | rfl <;> rfl) ?_ ?_ ?_ ?_; (unfold maxLen; omega); omega; (simp; omega); intro v2 w2 own2 gr2 loc2; have c20 : w2.cell? ⟨tb, 0, none⟩ = some (.int .i64 df) := (gr2.cell_far _ (by simp; omega) nb2).trans (by simp [go_sem, ct0, sza]); have c21 : w2.cell? ⟨tb, 1, none⟩ = some (.int .i64 dt) := (gr2.cell_far _ (by simp; omega) nb2).trans (by simp [go_sem, ct1, sza]); have c22 : w2.cell? ⟨tb, 2, none⟩ = some (.int .i64 (j : Int)) := (gr2.cell_far _ (by simp; omega) nb2).trans (by simp [go_sem, ct2, sza]); have cg2 : w2.cell? ⟨w3.heap.size, j * 3 + 1, none⟩ = some vj := (gr2.cell_far _ (by simp; omega) nb1).trans (by simp [go_sem, cg1, ga]); have fg2 : w2.frozen? ⟨w3.heap.size, j * 3 + 1, none⟩ = false := (gr2.frozen_far _ (by simp; omega) nb1).trans (by simp [go_sem, fg1, ga]); obtain ⟨a3, cap3, hv3, hcp3, hd3, ha3⟩ := rec_of_own (m := 3) (c := cD) (d := d0) (xs := ownDeps (ds.take k) j ++ [(df, dt, (j : Int))]) (fun _ => rfl) (by decide) (by rw [List.flatMap_append]; exact own2); have HV3 := Lib.hid hv3; have OW2 := Lib.hid own2; have GR2 := Lib.hid gr2; have LO2 := Lib.hid loc2; rw [hv3]; have R := Lib.hid (relD_step hkr hj HD.out RBA.out owa.out msa.out BEA.out HSEP.out HVJ.out own2 gr2 loc2 hv3); clear hv3 own2 gr2 loc2 hd3 ha3 HV3 OW2 GR2 LO2))
                  all_goals
                    go_wp2_with fail
                    exact ⟨by simpa using R.out, by simp [RowKit.intOf]; omega⟩
                · obtain rfl : k = ds.length := by omega
                  have OKS : Hid (SplitPost ⟨ns, cs⟩ ds r w (.returned (.tuple #[.slice (some ⟨w3.heap.size, 0, none⟩) ns.length ns.length, .int .i64 0])) wr) := by
                    refine ⟨BW3.out.trans (bel.mono (by omega)), .inr ⟨OK0.out, w3.heap.size, dv, mb, rfl, ⟨by omega, rb, fun i hi => ?_, hms, HINJ.out, HLAT.out⟩⟩⟩
                    have := hown i hi
                    rw [List.take_length] at this
                    exact this
                  clear hown hsep hms rb bel
                  go_wp2_with fail
                  go_ret2
                  exact OKS.out
    · have FIN := Lib.hid (split1 (p := ⟨ns, cs⟩) (ds := ds) (r := r) (.inr hrl))
      have HV := Lib.hid hv
      have q1 : ((r.length : Int) != 2 * (cs.length : Int)) = true := by simp; omega
      clear hv hrl
      go_enter Try.func19, Try.ntmps19
      go_wp2_with fail
      rw [HW1.out]
      refine (gvalid_any ⟨ns, cs⟩ An Ac cn cc _ hl hl2 HW.out H1.out).mono ?_
      rintro e w2 ⟨rfl, bel2⟩
      rw [HV.out]
      have BW2 := Lib.hid (BW.out.trans (bel2.mono (by omega)))
      have u1 : w2.cell? ⟨w.heap.size, 1, none⟩ = some (.slice Ac cs.length cc) := by rw [bel2.cell (by exact sz1)]; exact s1
      clear bel2 s0 s1
      go_wp2_with fail
      go_ret2
      exact SplitPost.err FIN.out (by decide) BW2.out
  · have FIN := Lib.hid (split1 (p := ⟨ns, cs⟩) (ds := ds) (r := r) (.inl hv))
    have q1 : (validP ⟨ns, cs⟩ != 0) = true := by simpa using hv
    clear hv
    go_enter Try.func19, Try.ntmps19
    go_wp2_with fail
    rw [HW1.out]
    refine (gvalid_any ⟨ns, cs⟩ An Ac cn cc _ hl hl2 HW.out H1.out).mono ?_
    rintro e w2 ⟨rfl, bel2⟩
    have BW2 := Lib.hid (BW.out.trans (bel2.mono (by omega)))
    clear bel2 s0 s1
    go_wp2_with fail
    go_ret2
    exact SplitPost.err FIN.out (by decide) BW2.out
end Go.Proofs.Ytljojgpjgjfddaa
