/- The reference's dependencies and legality of a tree against those of the tree package, in plain Lean. No program in sight. -/
import Derived.Test.YtljojgpjgjfddaaGreatTRefP
namespace Go.Proofs.YtljojgpjgjfddaaGreat
open Go.RowKit Go.Maps
set_option linter.unusedVariables false
set_option linter.unusedSimpArgs false

/-- The last cable of the walk to a node. -/
def lastP (P : List (List Int)) (u : Nat) : Int := (P.getD u []).getD ((P.getD u []).length - 1) 0
/-- The channel over which the walk comes to a node. -/
def inC (cs : List Cb) (P : List (List Int)) (u : Nat) : Int := leavV cs (lastP P u) (othN cs u (lastP P u).toNat : Nat)
/-- What the reference's Deps adds at a channel and a node. -/
def rfN (cs : List Cb) (out : List (List Int)) (s : Nat) (seen : List Bool) (P : List (List Int)) (f u : Nat) : List Dp :=
  if seen.getD u false = true ∧ u ≠ s ∧ inC cs P u = (f : Int) then (out.getD u []).map (dpF cs (f : Int) u) else []
def rfL (cs : List Cb) (out : List (List Int)) (s : Nat) (seen : List Bool) (P : List (List Int)) (f k : Nat) : List Dp := (List.range k).flatMap (rfN cs out s seen P f)
def rfA (cs : List Cb) (out : List (List Int)) (s : Nat) (seen : List Bool) (P : List (List Int)) (n m : Nat) : List Dp := (List.range m).flatMap fun f => rfL cs out s seen P f n
theorem rfL_succ (cs : List Cb) (out : List (List Int)) (s : Nat) (seen : List Bool) (P : List (List Int)) (f k : Nat) : rfL cs out s seen P f (k + 1) = rfL cs out s seen P f k ++ rfN cs out s seen P f k := by
  unfold rfL; rw [List.range_succ, List.flatMap_append]; simp
theorem rfA_succ (cs : List Cb) (out : List (List Int)) (s : Nat) (seen : List Bool) (P : List (List Int)) (n m : Nat) : rfA cs out s seen P n (m + 1) = rfA cs out s seen P n m ++ rfL cs out s seen P m n := by
  unfold rfA; rw [List.range_succ, List.flatMap_append]; simp
theorem rfL_len {cs : List Cb} {out : List (List Int)} {s : Nat} {seen : List Bool} {P : List (List Int)} {f b : Nat} (hr : ∀ u, (out.getD u []).length ≤ b) (k : Nat) : (rfL cs out s seen P f k).length ≤ k * b := by
  induction k with
  | zero => simp [rfL]
  | succ k ih =>
    rw [rfL_succ, List.length_append, Nat.succ_mul]
    have : (rfN cs out s seen P f k).length ≤ b := by
      unfold rfN
      split
      · rw [List.length_map]; exact hr k
      · simp
    omega
theorem rfA_len {cs : List Cb} {out : List (List Int)} {s : Nat} {seen : List Bool} {P : List (List Int)} {n b : Nat} (hr : ∀ u, (out.getD u []).length ≤ b) (m : Nat) : (rfA cs out s seen P n m).length ≤ m * (n * b) := by
  induction m with
  | zero => simp [rfA]
  | succ m ih =>
    rw [rfA_succ, List.length_append, Nat.succ_mul]
    have := rfL_len (cs := cs) (s := s) (seen := seen) (P := P) (f := m) hr n
    omega
theorem keyLt_irrefl (a : Dp) : ¬ keyLt a a := by unfold keyLt; omega
theorem keyLt_asymm {a b : Dp} (h : keyLt a b) : ¬ keyLt b a := by unfold keyLt at *; omega
theorem key_ext : ∀ {l m : List Dp}, l.Pairwise keyLt → m.Pairwise keyLt → (∀ x, x ∈ l ↔ x ∈ m) → l = m
  | [], [], _, _, _ => rfl
  | [], b :: m, _, _, h => by have := (h b).2 (List.mem_cons_self ..); cases this
  | a :: l, [], _, _, h => by have := (h a).1 (List.mem_cons_self ..); cases this
  | a :: l, b :: m, hl, hm, h => by
    obtain ⟨l1, l2⟩ := List.pairwise_cons.1 hl
    obtain ⟨m1, m2⟩ := List.pairwise_cons.1 hm
    have e : a = b := by
      rcases List.mem_cons.1 ((h a).1 (List.mem_cons_self ..)) with q | q
      · exact q
      · rcases List.mem_cons.1 ((h b).2 (List.mem_cons_self ..)) with q2 | q2
        · exact q2.symm
        · exact absurd (m1 a q) (keyLt_asymm (l1 b q2))
    subst e
    rw [key_ext l2 m2 fun x => ⟨fun hx => ?_, fun hx => ?_⟩]
    · rcases List.mem_cons.1 ((h x).1 (List.mem_cons_of_mem _ hx)) with q | q
      · subst q; exact absurd (l1 x hx) (keyLt_irrefl x)
      · exact q
    · rcases List.mem_cons.1 ((h x).2 (List.mem_cons_of_mem _ hx)) with q | q
      · subst q; exact absurd (m1 x hx) (keyLt_irrefl x)
      · exact q
section
variable {ns : List Nd} {cs : List Cb} {x : Tr} {s : Nat} {r : Nat → Nat} {Q : List Nat} {seen : List Bool} {P : List (List Int)}
/-- How the search comes to a node other than the source. -/
theorem BS.inn (h : BS ns.length cs x.out s Q Q.length 0 seen P) (V : VT ns cs x s r) {u : Nat} (hu : u ∈ Q) (hne : u ≠ s) :
    ∃ y k : Nat, 0 < (P.getD u []).length ∧ lastP P u = (k : Int) ∧ (k : Int) ∈ x.out.getD y [] ∧ k < cs.length ∧ k < 32 ∧ touchT (cs.getD k cb0) y u ∧ y ≠ u ∧ y < ns.length ∧ othN cs u k = y ∧ (reachR ns.length cs x).1.getD u 0 = (k : Int) ∧ inC cs P u = leavV cs (k : Int) (y : Int) := by
  obtain ⟨j, o, hd, e⟩ := h.par u hu hne
  obtain ⟨_, _, hp⟩ := h.fw j o hd
  rw [e] at hp
  have ho : o ∈ x.out.getD (Q.getD j 0) [] := by
    rcases hd.2 with ⟨_, q⟩ | ⟨_, q⟩
    · exact q
    · simp at q
  obtain ⟨k, rfl, hk, ht, hn, hy, hyu⟩ := V.edge ho
  have hov := V.ov_e _ _ ho
  rw [Int.toNat_natCast] at e hov
  rw [e] at ht hyu hov
  have c32 := (valid_sizes V.hv).2
  have hl : lastP P u = (k : Int) := by unfold lastP; rw [hp]; simp [List.getD]
  have hoy : othN cs u k = Q.getD j 0 := oth_of (touchT_symm ht)
  refine ⟨Q.getD j 0, k, by rw [hp]; simp, hl, ho, hk, by omega, ht, hyu, hy, hoy, hov, ?_⟩
  unfold inC
  rw [hl, Int.toNat_natCast, hoy]
theorem BS.seen_iff (h : BS ns.length cs x.out s Q Q.length 0 seen P) {u : Nat} (hu : u < ns.length) : seen.getD u false = true ↔ u ∈ Q := h.sn u hu
theorem BS.depN_eq (h : BS ns.length cs x.out s Q Q.length 0 seen P) (V : VT ns cs x s r) {u : Nat} (hu : u < ns.length) :
    depN cs (reachR ns.length cs x).1 x.out u = if seen.getD u false = true ∧ u ≠ s then (x.out.getD u []).map (dpF cs (inC cs P u) u) else [] := by
  by_cases hq : u ∈ Q
  · by_cases hne : u = s
    · subst hne
      rw [if_neg (fun q => q.2 rfl)]
      unfold depN
      rw [V.ov_s, if_pos (by decide)]
    · rw [if_pos ⟨(h.seen_iff hu).2 hq, hne⟩]
      obtain ⟨y, k, _, _, _, _, _, _, _, _, e1, e2, e3⟩ := h.inn V hq hne
      unfold depN
      rw [e2, if_neg (by omega), Int.toNat_natCast, e1, e3]
      rfl
  · rw [if_neg (fun q => hq ((h.seen_iff hu).1 q.1))]
    unfold depN
    rw [(V.ov_n u hu).2 (fun q => hq (h.dt_mem q)), if_pos (by decide)]
theorem BS.inC_bd (h : BS ns.length cs x.out s Q Q.length 0 seen P) (V : VT ns cs x s r) {u : Nat} (hu : u ∈ Q) (hne : u ≠ s) : 0 ≤ inC cs P u ∧ inC cs P u < 2 * cs.length ∧ (chEnds cs (inC cs P u)).2 = (u : Int) := by
  obtain ⟨y, k, _, _, _, hk, h32, ht, hyu, _, _, _, e⟩ := h.inn V hu hne
  obtain ⟨a1, a2, a3⟩ := leav_endsT h32 ht hyu
  rw [e, a1]
  exact ⟨a3, by omega, rfl⟩
theorem BS.rfA_mem (h : BS ns.length cs x.out s Q Q.length 0 seen P) (V : VT ns cs x s r) (d : Dp) : d ∈ rfA cs x.out s seen P ns.length (2 * cs.length) ↔ d ∈ depT23 ns.length cs x := by
  unfold rfA rfL depT23 depL
  constructor
  · intro hd
    obtain ⟨f, hf, hd⟩ := List.mem_flatMap.1 hd
    obtain ⟨u, hu, hd⟩ := List.mem_flatMap.1 hd
    refine List.mem_flatMap.2 ⟨u, hu, ?_⟩
    rw [h.depN_eq V (List.mem_range.1 hu)]
    unfold rfN at hd
    split at hd
    · rename_i q
      rw [if_pos ⟨q.1, q.2.1⟩, q.2.2]; exact hd
    · cases hd
  · intro hd
    obtain ⟨u, hu, hd⟩ := List.mem_flatMap.1 hd
    rw [h.depN_eq V (List.mem_range.1 hu)] at hd
    split at hd
    · rename_i q
      obtain ⟨b1, b2, _⟩ := h.inC_bd V ((h.seen_iff (List.mem_range.1 hu)).1 q.1) q.2
      refine List.mem_flatMap.2 ⟨(inC cs P u).toNat, List.mem_range.2 (by omega), List.mem_flatMap.2 ⟨u, hu, ?_⟩⟩
      unfold rfN
      rw [Int.toNat_of_nonneg b1, if_pos ⟨q.1, q.2, rfl⟩]
      exact hd
    · cases hd
theorem leav_lt {k k' u v v' : Nat} (hk : k < 32) (hk' : k' < 32) (ht : touchT (cs.getD k cb0) u v) (ht' : touchT (cs.getD k' cb0) u v') (hne : u ≠ v) (hne' : u ≠ v') (h : (k : Int) < k') : leavV cs (k : Int) (u : Int) < leavV cs (k' : Int) (u : Int) := by
  have e1 := (leav_endsT hk ht hne).2.1
  have e2 := (leav_endsT hk' ht' hne').2.1
  omega
theorem BS.rfA_asc (h : BS ns.length cs x.out s Q Q.length 0 seen P) (V : VT ns cs x s r) : (rfA cs x.out s seen P ns.length (2 * cs.length)).Pairwise keyLt := by
  have c32 := (valid_sizes V.hv).2
  have fst : ∀ f u d, d ∈ rfN cs x.out s seen P f u → d.1 = (f : Int) ∧ seen.getD u false = true ∧ u ≠ s ∧ inC cs P u = (f : Int) := by
    intro f u d hd
    unfold rfN at hd
    split at hd
    · rename_i q
      obtain ⟨o, _, rfl⟩ := List.mem_map.1 hd
      exact ⟨rfl, q⟩
    · cases hd
  unfold rfA
  rw [List.pairwise_flatMap]
  refine ⟨fun f hf => ?_, ?_⟩
  · unfold rfL
    rw [List.pairwise_flatMap]
    refine ⟨fun u hu => ?_, ?_⟩
    · unfold rfN
      split
      · have hu' := List.mem_range.1 hu
        have asc : (x.out.getD u []).Pairwise (· < ·) := by
          have h1 := V.rows
          unfold Go.Proofs.YtljojgpjgjfddaaGreat.rowsOk at h1
          have h2 := List.all_eq_true.1 h1 u (List.mem_range.2 (by rw [V.ol]; exact hu'))
          rw [Bool.and_eq_true] at h2
          exact asc_pair h2.1
        rw [List.pairwise_map]
        refine List.Pairwise.imp_of_mem (fun {a b} ha hb hab => ?_) asc
        obtain ⟨k, rfl, hk, ht, _, _, hne⟩ := V.edge ha
        obtain ⟨k', rfl, hk', ht', _, _, hne'⟩ := V.edge hb
        exact .inr ⟨rfl, leav_lt (by omega) (by omega) ht ht' hne hne' hab⟩
      · exact List.Pairwise.nil
    · refine List.Pairwise.imp_of_mem (fun {u v} hu hv huv a ha b hb => ?_) (List.pairwise_lt_range (n := ns.length))
      obtain ⟨_, a1, a2, a3⟩ := fst f u a ha
      obtain ⟨_, b1, b2, b3⟩ := fst f v b hb
      have e1 := (h.inC_bd V ((h.seen_iff (List.mem_range.1 hu)).1 a1) a2).2.2
      have e2 := (h.inC_bd V ((h.seen_iff (List.mem_range.1 hv)).1 b1) b2).2.2
      rw [a3] at e1
      rw [b3] at e2
      omega
  · refine List.Pairwise.imp (fun {f g} hfg a ha b hb => ?_) (List.pairwise_lt_range (n := 2 * cs.length))
    obtain ⟨u, _, ha⟩ := List.mem_flatMap.1 ha
    obtain ⟨v, _, hb⟩ := List.mem_flatMap.1 hb
    have := (fst _ _ _ ha).1
    have := (fst _ _ _ hb).1
    exact .inl (by omega)
/-- The reference's dependencies are those of the tree package. -/
theorem BS.deps (h : BS ns.length cs x.out s Q Q.length 0 seen P) (V : VT ns cs x s r) {ts : List Dp} (hp : ts.Perm (depT23 ns.length cs x)) (hs : ts.Pairwise (fun a b => ¬ keyLt b a)) : rfA cs x.out s seen P ns.length (2 * cs.length) = ts :=
  key_ext (h.rfA_asc V) (V.dep_asc hp hs) fun d => (h.rfA_mem V d).trans hp.mem_iff.symm
/-- A node that is not seen has no walk. -/
theorem BS.leg_skip (h : BS ns.length cs x.out s Q Q.length 0 seen P) (hs : x.src = s) {lv : List Int} {k : Nat} (hk : k < ns.length) (hns : seen.getD k false = false) (ha : allLeg cs lv x k) : allLeg cs lv x (k + 1) := by
  intro v W hv hc hr
  by_cases e : v = k
  · subst e
    have hsn : x.src.toNat = s := by rw [hs]; rfl
    rw [hsn] at hc
    have := (h.seen_iff hk).2 (h.dt_mem (DT.of_chn hc hr))
    rw [hns] at this; cases this
  · exact ha v W (by omega) hc hr
theorem VT.leg_next (V : VT ns cs x s r) {lv : List Int} {k : Nat} {W : List (Nat × Int)} (hc : chn cs s W k) (hr : inRows x.out W) (hl : legB lv (nodesW cs s W) (W.map (·.2)) = true) (ha : allLeg cs lv x k) : allLeg cs lv x (k + 1) := by
  have hsn : x.src.toNat = s := by rw [V.src]; rfl
  intro v W' hv hc' hr'
  by_cases e : v = k
  · subst e
    rw [hsn] at hc' ⊢
    rw [← V.walk_uniq _ W W' v rfl hc hr hc' hr']
    exact hl
  · exact ha v W' (by omega) hc' hr'
theorem VT.leg_bad (V : VT ns cs x s r) {lv : List Int} {k : Nat} (hk : k < ns.length) {W : List (Nat × Int)} (hc : chn cs s W k) (hr : inRows x.out W) (hl : legB lv (nodesW cs s W) (W.map (·.2)) = false) : ¬ allLeg cs lv x ns.length := by
  have hsn : x.src.toNat = s := by rw [V.src]; rfl
  intro ha
  have := ha k W hk (by rw [hsn]; exact hc) hr
  rw [hsn, hl] at this
  cases this
end
end Go.Proofs.YtljojgpjgjfddaaGreat
