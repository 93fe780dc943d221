/- Several texts in one: CGroup, CCycle. -/
import Derived.Test.YtljojgpjgjfddaaGreatCUnion
import Derived.Test.YtljojgpjgjfddaaGreatCVisit
import Derived.Laws.EntriesVeiled

/- The map from channels to the channels that depend on them, while channel.Cycle builds it; the keys of it, sorted. -/
namespace Go.Proofs.YtljojgpjgjfddaaGreat
open Go.RowKit Go.Maps Go.Sort Go.Shelf
set_option linter.unusedVariables false

def nxD (L : List Dp) (c : Int) : List Int := (L.filter fun d => d.1 == c).map (·.2.1)
def nilS : Value := .slice none 0 0
structure GM (w : World) (base b n : Nat) (M : Lit → Option Value) (L : List Dp) : Prop where
  om : OMap w Tryz.prog 3 b n M
  rows : ∀ c : Int, w.ownsRow base 3 1 ((M (.int .i64 c)).getD nilS) (nxD L c).length ((nxD L c).flatMap cI)
  apart : ∀ c c' : Int, c ≠ c' → ∀ g, ((M (.int .i64 c)).getD nilS).ownBlock = some g → ((M (.int .i64 c')).getD nilS).ownBlock ≠ some g
  keys : ∀ l, (M l).isSome = true ↔ ∃ d ∈ L, l = .int .i64 d.1
theorem nxD_yes (L : List Dp) (d : Dp) : nxD (L ++ [d]) d.1 = nxD L d.1 ++ [d.2.1] := by unfold nxD; simp [List.filter_append]
theorem nxD_no (L : List Dp) (d : Dp) {c : Int} (h : c ≠ d.1) : nxD (L ++ [d]) c = nxD L c := by
  unfold nxD
  have : (d.1 == c) = false := by simpa using fun e => h e.symm
  simp [List.filter_append, this]
theorem nxD_len (L : List Dp) (c : Int) : (nxD L c).length ≤ L.length := by unfold nxD; rw [List.length_map]; exact List.length_filter_le _ _
section
variable {w w' : World} {base b n : Nat} {M : Lit → Option Value} {L : List Dp}
theorem GM.alloc (h : GM w base b n M L) (o : Obj) : GM (w.alloc o) base b n M L := ⟨h.om.alloc o, fun c => (h.rows c).alloc o, h.apart, h.keys⟩
theorem GM.drew (h : GM w base b n M L) : GM w.drew base b n M L := ⟨h.om.drew, fun c => (h.rows c).drew, h.apart, h.keys⟩
theorem GM.made (w : World) (base : Nat) : GM (w.alloc (.map #[] 0)) base w.heap.size 0 (fun _ => none) [] :=
  ⟨OMap.made w Tryz.prog 3, fun c => World.ownsRow_nil _ _ _ _, fun c c' _ g h => by simp [nilS, Value.ownBlock] at h, fun l => by simp⟩
theorem GM.below {B : Nat} (h : GM w base b n M L) (hb : Below B w w') (hB : w.heap.size ≤ B) : GM w' base b n M L := by
  refine ⟨h.om.below hb (by have := h.om.lt; omega), fun c => ?_, h.apart, h.keys⟩
  have hg : w.grownBy w' none := ⟨hb.os, hb.tape, hb.output, hb.size, fun i hi _ => hb.block i (by omega)⟩
  exact (h.rows c).kept hg (Classical.em _)
theorem sameKey_int (x y : Int) : (Lit.int .i64 x).sameKey (.int .i64 y) = (x == y) := by rw [Bool.eq_iff_iff]; simp [Lit.sameKey]
/-- One more dependency. -/
theorem GM.step {w2 w5 : World} {df dt dn : Int} {v2 : Value} (h : GM w base b n M L) (hbb : b < base)
    (own2 : w2.ownsRow base 3 1 v2 ((nxD L df).length + 1) ((nxD L df).flatMap cI ++ [.int .i64 dt])) (g2 : w.grownBy w2 ((M (.int .i64 df)).getD nilS).ownBlock) (loc : v2.ownBlock = ((M (.int .i64 df)).getD nilS).ownBlock ∨ v2.ownBlock = some w.heap.size)
    (om5 : OMap w5 Tryz.prog 3 b (n + 1) (putM M (.int .i64 df) v2)) (g5 : w2.grownBy w5 (some b)) : GM w5 base b (n + 1) (putM M (.int .i64 df) v2) (L ++ [(df, dt, dn)]) := by
  have pm : ∀ c : Int, (putM M (.int .i64 df) v2 (.int .i64 c)).getD nilS = if c = df then v2 else (M (.int .i64 c)).getD nilS := by
    intro c
    unfold putM
    rw [sameKey_int]
    by_cases e : c = df
    · simp [e]
    · simp [e]
  refine ⟨om5, fun c => ?_, fun c c' hne g hg => ?_, fun l => ?_⟩
  · rw [pm]
    by_cases e : c = df
    · subst e
      rw [if_pos rfl]
      have h1 := own_keptJ own2 g5 (fun q hq => by have := (own2.lt q hq).1; omega)
      have := nxD_yes L (c, dt, dn)
      simp only at this
      rw [this, List.length_append, List.flatMap_append]
      exact h1
    · rw [if_neg e, nxD_no L (df, dt, dn) e]
      have h1 : w2.ownsRow base 3 1 ((M (.int .i64 c)).getD nilS) (nxD L c).length ((nxD L c).flatMap cI) := (h.rows c).kept g2 (by
        cases hb : ((M (.int .i64 c)).getD nilS).ownBlock with
        | none => exact .inl rfl
        | some q => exact .inr (fun e2 => h.apart c df e q hb e2.symm))
      exact own_keptJ h1 g5 (fun q hq => by have := (h1.lt q hq).1; omega)
  · rw [pm] at hg ⊢
    have old : ∀ c, ∀ g, ((M (.int .i64 c)).getD nilS).ownBlock = some g → g < w.heap.size := fun c g hg => ((h.rows c).lt g hg).2
    by_cases e : c = df
    · subst e
      rw [if_pos rfl] at hg
      rw [if_neg (fun e2 => hne e2.symm)]
      rcases loc with l1 | l1
      · rw [l1] at hg; exact h.apart c c' hne g hg
      · rw [l1] at hg
        injection hg with hg
        intro h2
        have := old c' g h2
        omega
    · rw [if_neg e] at hg
      by_cases e2 : c' = df
      · subst e2
        rw [if_pos rfl]
        rcases loc with l1 | l1
        · rw [l1]; exact h.apart c c' hne g hg
        · rw [l1]
          intro h2
          injection h2 with h2
          have := old c g hg
          omega
      · rw [if_neg e2]; exact h.apart c c' hne g hg
  · unfold putM
    by_cases hs : l.sameKey (.int .i64 df) = true
    · rw [if_pos hs]
      simp only [Option.isSome_some, true_iff]
      exact ⟨(df, dt, dn), by simp, WideAt.sameKey_eq hs⟩
    · rw [if_neg hs, h.keys]
      constructor
      · rintro ⟨d, hd, e⟩; exact ⟨d, by simp [hd], e⟩
      · rintro ⟨d, hd, e⟩
        rw [List.mem_append] at hd
        rcases hd with hd | hd
        · exact ⟨d, hd, e⟩
        · simp only [List.mem_singleton] at hd
          subst hd
          exfalso; apply hs
          rw [e]; simp [Lit.sameKey]
end
/-! The keys. -/
def dedI (l : List Int) : List Int := l.foldl (fun acc x => if x ∈ acc then acc else acc ++ [x]) []
theorem dedI_aux (l acc : List Int) (h : acc.Nodup) : (l.foldl (fun acc x => if x ∈ acc then acc else acc ++ [x]) acc).Nodup ∧ ∀ y, y ∈ l.foldl (fun acc x => if x ∈ acc then acc else acc ++ [x]) acc ↔ y ∈ acc ∨ y ∈ l := by
  induction l generalizing acc with
  | nil => exact ⟨h, by simp⟩
  | cons x r ih =>
    rw [List.foldl_cons]
    by_cases hx : x ∈ acc
    · rw [if_pos hx]
      refine ⟨(ih acc h).1, fun y => ?_⟩
      rw [(ih acc h).2 y]
      constructor
      · rintro (h1 | h1)
        · exact .inl h1
        · exact .inr (by simp [h1])
      · rintro (h1 | h1)
        · exact .inl h1
        · rcases List.mem_cons.1 h1 with rfl | h1
          · exact .inl hx
          · exact .inr h1
    · rw [if_neg hx]
      have hn : (acc ++ [x]).Nodup := List.nodup_append.2 ⟨h, by simp, fun a ha b hb => by simp at hb; subst hb; exact fun e => hx (e ▸ ha)⟩
      refine ⟨(ih _ hn).1, fun y => ?_⟩
      rw [(ih _ hn).2 y]
      simp [or_assoc]
theorem dedI_nodup (l : List Int) : (dedI l).Nodup := (dedI_aux l [] List.nodup_nil).1
theorem mem_dedI {l : List Int} {y : Int} : y ∈ dedI l ↔ y ∈ l := by have := (dedI_aux l [] List.nodup_nil).2 y; simpa [dedI] using this
theorem dedI_len (l : List Int) : (dedI l).length ≤ l.length := List.Nodup.length_le_of_subset (dedI_nodup l) (fun x hx => mem_dedI.1 hx)
def keysL (L : List Dp) : List Int := (dedI (L.map (·.1))).mergeSort leI
theorem keysL_len (L : List Dp) : (keysL L).length ≤ L.length := by unfold keysL; rw [List.length_mergeSort]; have := dedI_len (L.map (·.1)); simpa using this
theorem mem_keysL {L : List Dp} {c : Int} : c ∈ keysL L ↔ ∃ d ∈ L, d.1 = c := by unfold keysL; rw [List.mem_mergeSort, mem_dedI, List.mem_map]

theorem sortsAC (m : Nat) : AnyZI.SortsIn Tryz.prog Tryz.sortedA_ren Fence.wide m :=
  ⟨fun blk off cap ss W hH hblk hsz => callsIn_wide.2 (AnyM.slices_Sort_int Tryz.sortA blk off cap ss W hH hblk hsz),
   fun p cap W => callsIn_wide.2 (AnyM.slices_Sort_int_none Tryz.sortA p cap W)⟩
theorem keysIS_any (m : Option Nat) (w : World) :
    Calls Tryz.prog 79 #[.map m] w fun e w' => e = .returned (.func (.func 117) #[] #[.pointer (some ⟨w.heap.size, 0, none⟩)]) ∧ w.alloc (.cells #[.map m] 134) = w' :=
  (callsIn_wide (n := 5)).1 ((AnyZI.keys_in Tryz.keysIS Fence.wide 5 trivial rfl m w).mono fun e w' h => ⟨h.1, h.2.symm⟩)
theorem sortedIS_any (B b n base : Nat) (M : Lit → Option Value) (L : List Dp) (w : World) (hB : B < w.heap.size) (hc : w.cell? ⟨B, 0, none⟩ = some (.map (some b))) (hg : GM w base b n M L) (hl : L.length ≤ 1000000) :
    Calls Tryz.prog 72 #[.func (.func 117) #[] #[.pointer (some ⟨B, 0, none⟩)]] w (IntsPost (keysL L) w) := by
  refine (callsIn_wide (n := 5)).1 ?_
  obtain ⟨D, hown, hD⟩ := hg.om
  obtain ⟨es, hDe, hpw, hkl⟩ := hown.entries (int_keyed Tryz.underlying3)
  obtain ⟨es', hDe', hko⟩ := hown.keysOf
  obtain rfl : es = es' := by rw [hDe] at hDe'; simpa using hDe'
  have hints : ∀ p ∈ es, ∃ x, p.1 = .int .i64 x := fun p hp => by obtain ⟨v, hv⟩ := hko p hp; obtain ⟨x, _, hx, _⟩ := Maps.keyOf_i64 Tryz.underlying3 hv; exact ⟨x, hx⟩
  have hperm : (dedI (L.map (·.1))).Perm (intKeys D) := by
    subst hDe
    refine perm_intKeys hpw hints (dedI_nodup _) fun x => ?_
    rw [(hD _).1, hg.keys, mem_dedI, List.mem_map]
    constructor
    · rintro ⟨d, hd, rfl⟩; exact ⟨d, hd, rfl⟩
    · rintro ⟨d, hd, e⟩; exact ⟨d, hd, by injection e with _ e; exact e.symm⟩
  have hsz : Maps.size D ≤ L.length := by
    have h1 := hperm.length_eq
    have h2 : (intKeys D).length = Maps.size D := by subst hDe; rw [size_eq]; simp [intKeys]
    have := dedI_len (L.map (·.1))
    simp at this
    omega
  have hseq : SeqGives Fence.wide 2 Tryz.prog 117 #[.pointer (some ⟨B, 0, none⟩)] encZ (fun ss => ss.Perm (intKeys D)) (Maps.size D) w :=
    AnyZI.keys_gives (ρ := Tryz.keysIS_ren) { Tryz.keysIS with } Fence.wide _ trivial rfl (by omega) B b _ D w hB hc hown
  have cS := AnyZI.sorted_in Tryz.sortedA Fence.wide 5 trivial trivial trivial trivial rfl (by omega) (sortsAC _) (enters_of Tryz.func115 (by kernel_rfl) rfl) 117 #[.pointer (some ⟨B, 0, none⟩)] trivial (enters_of Tryz.func117 (by kernel_rfl) rfl) _ _ (by unfold maxLen; omega) (by omega) _ hseq
  refine cS.mono ?_
  rintro e w' ⟨v, ss, rfl, hS, hrow, hnil, hb⟩
  have e1 : ss.mergeSort leI = keysL L := mergeSort_of_perm_i (hS.trans hperm.symm)
  refine ⟨v, rfl, ?_, hb⟩
  have e2 : ss.length = (keysL L).length := by rw [← e1, List.length_mergeSort]
  rw [← e2, cI_map, ← e1]
  exact hrow
end Go.Proofs.YtljojgpjgjfddaaGreat

/- The contract of channel.Cycle. -/
namespace Go.Proofs.YtljojgpjgjfddaaGreat
open Go.RowKit Go.Maps Go.Sort Go.Shelf
set_option linter.unusedVariables false

def nodesU (L : List Dp) : List Int := L.map (·.1) ++ L.map (·.2.1)
def cycL (L : List Dp) : List Int := cycOf (nxD L) ((nodesU L).length + 1) (keysL L)
def cycD (ds : List Dp) : List Int := cycL (unionD ds [])
theorem nodesU_next (L : List Dp) : ∀ c ∈ nodesU L, ∀ x ∈ nxD L c, x ∈ nodesU L := by
  intro c _ x hx
  unfold nxD at hx
  obtain ⟨d, hd, rfl⟩ := List.mem_map.1 hx
  exact List.mem_append.2 (.inr (List.mem_map.2 ⟨d, (List.mem_filter.1 hd).1, rfl⟩))
theorem nodesU_keys (L : List Dp) : ∀ c ∈ keysL L, c ∈ nodesU L := by
  intro c hc
  obtain ⟨d, hd, rfl⟩ := mem_keysL.1 hc
  exact List.mem_append.2 (.inl (List.mem_map.2 ⟨d, hd, rfl⟩))
theorem nodesU_wf {L : List Dp} (h : WfD L) : ∀ c ∈ nodesU L, (Lit.int .i64 c).wf = true := by
  intro c hc
  rcases List.mem_append.1 hc with h1 | h1
  · obtain ⟨d, hd, rfl⟩ := List.mem_map.1 h1; exact (h d hd).1
  · obtain ⟨d, hd, rfl⟩ := List.mem_map.1 h1; exact (h d hd).2.1
theorem mem_unionD {a b : List Dp} {x : Dp} : x ∈ unionD a b ↔ x ∈ a ∨ x ∈ b := by
  unfold unionD sortD
  rw [List.mem_mergeSort, mem_setOfD, List.mem_append]
theorem unionD_wf {a b : List Dp} (ha : WfD a) (hb : WfD b) : WfD (unionD a b) := fun d hd => by
  rcases mem_unionD.1 hd with h | h
  · exact ha d h
  · exact hb d h
theorem unionD_len (a b : List Dp) : (unionD a b).length ≤ a.length + b.length := by
  unfold unionD; rw [sortD_length]; have := setOfD_len (a ++ b); rwa [List.length_append] at this

def envC (W0 : World) (Q bN n : Nat) (M : Lit → Option Value) (nx : Int → List Int) : Env := { B := W0.heap.size, bS := Q, Bp := Q + 1 + 1, Bc := Q + 1 + 1 + 1, Bst := Q + 1, Bn := bN + 1, Bv := Q + 1 + 1 + 1 + 1, bN := bN, nN := n, M := M, W0 := W0, nx := nx }
theorem row_blk {w : World} {base : Nat} {e : TypeId} {size n cap : Nat} {a : Option Addr} {xs : List Value} (h : w.ownsRow base e size (.slice a n cap) n xs) : ∀ x, a = some x → x.block < w.heap.size := by
  intro x hx
  subst hx
  rcases h.2 with ⟨h1, _⟩ | ⟨g, c', cur, h1, _, hg, _⟩
  · cases h1
  · simp only [Value.slice.injEq, Option.some.injEq] at h1
    rw [h1.1]
    exact (Array.getElem?_eq_some_iff.1 hg).1
def RelG (L : List Dp) (bN : Nat) (w2 : World) (i : Value) (wr : World) : Prop :=
  ∃ (k : Nat) (M : Lit → Option Value), k ≤ L.length ∧ i = .int .i64 k ∧ GM wr w2.heap.size bN k M (L.take k) ∧ KB w2.heap.size [bN] w2 wr
def RelK (e : Env) (U : List Int) (f : Ens → List Int → Int → VR) (keys : List Int) (i : Value) (wr : World) : Prop :=
  ∃ k : Nat, k ≤ keys.length ∧ i = .int .i64 k ∧ (visL f (keys.take k) [] []).1 = false ∧ VW e U (visL f (keys.take k) [] []).2.1 [] wr

set_option maxRecDepth 100000 in
set_option maxHeartbeats 4000000 in
theorem cycle_any (ds : List Dp) (A : Option Addr) (c : Nat) (w : World) (hl : ds.length ≤ 10000) (wd : WfD ds) (h : IsRec 3 cD d0 w A ds.length ds) :
    Calls Tryz.prog 28 #[.slice A ds.length c] w (IntsPost (cycD ds) w) := by
  have hmm := @run_makeMap Tryz.prog
  have hL1 := unionD_len ds []
  have WL := Lib.hid (unionD_wf wd (b := []) (by intro d hd; cases hd))
  obtain ⟨w1, hw1⟩ : ∃ w1 : World, (w.alloc (.map #[] 0)).alloc (.cells #[.map (some w.heap.size)] 134) = w1 := ⟨_, rfl⟩
  have sz1 : w1.heap.size = w.heap.size + 2 := by rw [← hw1]; simp
  have B1 : Below w.heap.size w w1 := by rw [← hw1]; exact ((Below.refl _ _).alloc (Nat.le_refl _) _).alloc (by simp) _
  have GM1 : ∀ base, GM w1 base w.heap.size 0 (fun _ => none) [] := fun base => by rw [← hw1]; exact (GM.made w base).alloc _
  have BN1 : Blk w1 (w.heap.size + 1) 134 #[.map (some w.heap.size)] := by rw [← hw1]; have := Blk.new (w.alloc (.map #[] 0)) 134 #[.map (some w.heap.size)]; simpa using this
  have H1 := Lib.hid (h.below (Nat.le_refl _) B1)
  have SZ1 := Lib.hid sz1
  have HB1 := Lib.hid B1
  have HG1 := Lib.hid GM1
  have HBN1 := Lib.hid BN1
  have HW1 := Lib.hid hw1
  have WD := Lib.hid wd
  have hcon := Lib.hid (union_any ds [] A none c 0 w1 (by omega) (by simp) wd (by intro d hd; cases hd) H1.out (IsRec.nil w1))
  clear h wd hw1 sz1 B1 GM1 BN1
  go_enter Tryz.func28, Tryz.ntmps28
  go_wp2_with fail
  rw [HW1.out]
  refine hcon.out.mono ?_
  rintro e w2 ⟨v, rfl, own, bel⟩
  have UE : Hid (cycD ds = cycL (unionD ds [])) := rfl
  generalize unionD ds [] = L at *
  obtain ⟨aL, cL, rfl, _, recL, haL⟩ := rec_of_own (d := d0) (m := 3) cD_len3 (by decide) own
  have RL := Lib.hid recL
  have HAL : Hid (∀ x : Addr, aL = some x → x.block ∉ [w.heap.size]) := fun x hx => by have := haL x hx; have := SZ1.out; simp; omega
  have BN2 := Lib.hid (HBN1.out.below bel HBN1.out.lt)
  have bs2 := bel.size
  have sz2 : w.heap.size + 2 ≤ w2.heap.size := by have := SZ1.out; omega
  have B2 : Hid (Below w.heap.size w w2) := HB1.out.trans (bel.mono (by have := SZ1.out; omega))
  have ST : Hid (RelG L w.heap.size w2 (.int .i64 0) w2) := ⟨0, fun _ => none, Nat.zero_le _, rfl, (HG1.out w2.heap.size).below bel (Nat.le_refl _), KB.refl _ _ _⟩
  have hLl : L.length ≤ 10000 := by simp at hL1; omega
  clear own bel recL haL HG1 HBN1 H1 hL1 HW1 hcon hmm
  obtain ⟨i0, hi0, hz0, hz1, hz2⟩ := info_parts infoInt
  go_wp2_with fail
  go_loopw [16] (fun i wr => RelG L w.heap.size w2 i wr) (fun i _ => L.length - (RowKit.intOf i).toNat)
  case atStart => exact ST.out
  case round =>
    clear ST
    obtain ⟨k, M, hk, rfl, gm, kb⟩ := hrel
    have kbs := kb.size
    have cn := (kb.blk BN2.out (by omega) (by simp)).one.1
    by_cases hkr : k < L.length
    · obtain ⟨bb, off, hA, hbb, hmem, e0, e1, e2⟩ := dep_at (kb.isRec RL.out rfl HAL.out) k hkr
      have TS := Lib.hid (take_snocG d0 L k hkr)
      have wd := WL.out _ hmem
      generalize L.getD k d0 = x at *
      subst hA
      obtain ⟨df, dt, dn⟩ := x
      simp only at e0 e1 e2 wd
      obtain ⟨wdf, wdt, _⟩ := wd
      obtain ⟨wa, hwa⟩ : ∃ wa : World, wr.alloc (.cells #[.int .i64 df, .int .i64 dt, .int .i64 dn] 69) = wa := ⟨_, rfl⟩
      have ta : Blk wa wr.heap.size 69 #[.int .i64 df, .int .i64 dt, .int .i64 dn] := by rw [← hwa]; exact Blk.new _ _ _
      have gma : GM wa w2.heap.size w.heap.size k M (L.take k) := by rw [← hwa]; exact gm.alloc _
      have KBA : Hid (KB w2.heap.size [w.heap.size] w2 wa) := by rw [Hid, ← hwa]; exact kb.alloc (Nat.le_refl _) _
      have ct0 : wa.cell? ⟨wr.heap.size, 0, none⟩ = some (.int .i64 df) := ta.cell 0
      have ct1 : wa.cell? ⟨wr.heap.size, 1, none⟩ = some (.int .i64 dt) := ta.cell 1
      have cna : wa.cell? ⟨w.heap.size + 1, 0, none⟩ = some (.map (some w.heap.size)) := (KBA.out.blk BN2.out (by omega) (by simp)).one.1
      have OL : Hid (∀ g, ((M (.int .i64 df)).getD nilS).ownBlock = some g → w2.heap.size ≤ g ∧ g < wr.heap.size) := fun g hg => (gm.rows df).lt g hg
      have r1 := gma.om.drew.look (t := 134) (int_keyed Tryz.underlying3) Tryz.underlying134 (zeroInts wa.drew) (keyOf_int_mk Tryz.underlying3 wdf)
      have r2 := ((gma.om.alloc (.cells #[.int .i64 dt] 3)).drew).look (t := 134) (int_keyed Tryz.underlying3) Tryz.underlying134 (zeroInts _) (keyOf_int_mk Tryz.underlying3 wdf)
      have GMA := Lib.hid gma
      have OWD := Lib.hid (gma.rows df)
      have hnl := nxD_len (L.take k) df
      have htl : (L.take k).length ≤ L.length := by rw [List.length_take]; omega
      have HWA := Lib.hid hwa
      have sza : wr.heap.size < wa.heap.size := ta.lt
      have szn : w.heap.size + 1 < wa.heap.size := by omega
      have OMA : Hid (OMap wa Tryz.prog 3 w.heap.size k M) := gma.om
      have KEY := Lib.hid (keyOf_int_mk Tryz.underlying3 wdf)
      have SV : Hid ((M (.int .i64 df)).getD (.slice none 0 0) = (M (.int .i64 df)).getD nilS) := rfl
      clear hmem hwa ta gma gm kb
      go_wp2_with fail
      rw [HWA.out]
      clear e0 e1 e2 cn HWA
      generalize wr.heap.size = tb at *
      rw [SV.out] at r1 r2
      have STEP : Hid (∀ v2 wb w5, wb.ownsRow w2.heap.size 3 1 v2 ((nxD (L.take k) df).length + 1) ((nxD (L.take k) df).flatMap cI ++ [.int .i64 dt]) → ((wa.alloc (.cells #[.int .i64 dt] 3)).drew).grownBy wb ((M (.int .i64 df)).getD nilS).ownBlock → (v2.ownBlock = ((M (.int .i64 df)).getD nilS).ownBlock ∨ v2.ownBlock = some ((wa.alloc (.cells #[.int .i64 dt] 3)).drew).heap.size) →
          OMap w5 Tryz.prog 3 w.heap.size (k + 1) (putM M (.int .i64 df) v2) → wb.grownBy w5 (some w.heap.size) → RelG L w.heap.size w2 (.int .i64 ((k + 1 : Nat) : Int)) w5) := fun v2 wb w5 h1 h2 h3 h4 h5 => by
        refine ⟨k + 1, putM M (.int .i64 df) v2, by omega, rfl, ?_, ?_⟩
        · rw [TS.out]
          exact GM.step ((GMA.out.alloc _).drew) (by omega) h1 h2 h3 h4 h5
        · have k1 : KB w2.heap.size [w.heap.size] w2 wb := ((KBA.out.alloc (Nat.le_refl _) _).drew).grown (Nat.le_refl _) h2 (fun g hg => .inr (OL.out g hg).1)
          exact k1.grown (Nat.le_refl _) h5 (fun g hg => by injection hg with hg; subst hg; exact .inl (by simp))
      generalize (M (.int .i64 df)).getD nilS = sv at *
      have RD : Hid (Reads (wa.alloc (.cells #[.int .i64 dt] 3)).drew (wa.heap.size + 1) 1 (some ⟨wa.heap.size, 0, none⟩) 1 [.int .i64 dt]) := by
        refine ⟨rfl, fun _ => ⟨_, rfl, by simp, fun q u hu => ?_⟩⟩
        exact World.news_of_block (cs := #[.int .i64 dt]) (t := 3) (fr := (0, 0)) (heap_alloc_new wa _) q u hu
      have KA : Hid ((wa.alloc (.cells #[.int .i64 dt] 3)).drew.cell? ⟨w.heap.size + 1, 0, none⟩ = some (.map (some w.heap.size)) ∧ (wa.alloc (.cells #[.int .i64 dt] 3)).drew.cell? ⟨tb, 0, none⟩ = some (.int .i64 df) ∧ (wa.alloc (.cells #[.int .i64 dt] 3)).drew.cell? ⟨tb, 1, none⟩ = some (.int .i64 dt)) :=
        ⟨(World.cell?_alloc_lt wa _ ⟨w.heap.size + 1, 0, none⟩ szn).trans cna, (World.cell?_alloc_lt wa _ ⟨tb, 0, none⟩ sza).trans ct0, (World.cell?_alloc_lt wa _ ⟨tb, 1, none⟩ sza).trans ct1⟩
      go_region_held3 (fun w' => w'.cell? ⟨w.heap.size + 1, 0, none⟩ = some (.map (some w.heap.size)) ∧ w'.cell? ⟨tb, 0, none⟩ = some (.int .i64 df) ∧ w'.cell? ⟨tb, 1, none⟩ = some (.int .i64 dt))
        (first | exact ⟨cna, ct0, ct1⟩ | exact KA.out | exact KX.out | exact K5.out)
        (first | (refine step_append_any _ (by rfl) (.tmp 26) (.tmp 29) 28 (by rfl) w2.heap.size 3 i0 _ 1 8 Tryz.underlying28 hi0 hz0 hz1 hz2 rfl (by decide) _ _ _ (by rfl) ((OWD.out.alloc _).drew) _ (some ⟨wa.heap.size, 0, none⟩) 1 1 [.int .i64 dt] (by rfl) RD.out (by intro u hu; simp at hu; subst hu; rfl) ?_ ?_ ?_ ?_; (unfold maxLen; omega); omega; (simp; omega); intro v2 wb own2 gr2 loc2; have KX : Hid (wb.cell? ⟨w.heap.size + 1, 0, none⟩ = some (.map (some w.heap.size)) ∧ wb.cell? ⟨tb, 0, none⟩ = some (.int .i64 df) ∧ wb.cell? ⟨tb, 1, none⟩ = some (.int .i64 dt)) := ⟨(gr2.cell_far ⟨w.heap.size + 1, 0, none⟩ (by simp; omega) (fun h => by have := (OL.out _ h.symm).1; simp at this; omega)).trans KA.out.1, (gr2.cell_far ⟨tb, 0, none⟩ (by simp; omega) (fun h => by have := (OL.out _ h.symm).2; simp at this)).trans KA.out.2.1, (gr2.cell_far ⟨tb, 1, none⟩ (by simp; omega) (fun h => by have := (OL.out _ h.symm).2; simp at this)).trans KA.out.2.2⟩; obtain ⟨w5, hrun5, om5, g5⟩ := (((OMA.out.alloc _).drew).kept gr2 (fun h => by have := (OL.out _ h.symm).1; omega)).store (t := 134) (int_keyed Tryz.underlying3) Tryz.underlying134 (by unfold maxLen; omega) KEY.out v2; have K5 : Hid (w5.cell? ⟨w.heap.size + 1, 0, none⟩ = some (.map (some w.heap.size)) ∧ w5.cell? ⟨tb, 0, none⟩ = some (.int .i64 df) ∧ w5.cell? ⟨tb, 1, none⟩ = some (.int .i64 dt)) := ⟨(g5.cell_far ⟨w.heap.size + 1, 0, none⟩ (by have := gr2.size; simp at this; show w.heap.size + 1 < _; omega) (by simp)).trans KX.out.1, (g5.cell_far ⟨tb, 0, none⟩ (by have := gr2.size; simp at this; show tb < _; omega) (by simp; omega)).trans KX.out.2.1, (g5.cell_far ⟨tb, 1, none⟩ (by have := gr2.size; simp at this; show tb < _; omega) (by simp; omega)).trans KX.out.2.2⟩; have R := Lib.hid (STEP.out v2 wb w5 own2 gr2 loc2 om5 g5); clear own2 gr2 om5 g5 loc2))
      all_goals
        go_wp2_with fail
        exact ⟨by simpa using R.out, by simp [RowKit.intOf]; omega⟩
    · obtain rfl : k = L.length := by omega
      rw [List.take_length] at gm
      have szn : w.heap.size + 1 < wr.heap.size := by omega
      obtain ⟨W5, hW5⟩ : ∃ W5 : World, (((((wr.alloc (.map #[] 0)).alloc (.cells #[.map (some wr.heap.size)] 49)).alloc (.cells #[.slice none 0 0] 28)).alloc (.cells #[.slice none 0 0] 28)).alloc (.cells #[.func (.func 76) #[] #[.pointer (some ⟨wr.heap.size + 1, 0, none⟩), .pointer (some ⟨wr.heap.size + 1 + 1, 0, none⟩), .pointer (some ⟨wr.heap.size + 1 + 1 + 1, 0, none⟩), .pointer (some ⟨w.heap.size + 1, 0, none⟩), .pointer (some ⟨wr.heap.size + 1 + 1 + 1 + 1, 0, none⟩)]] 135)) = W5 := ⟨_, rfl⟩
      have bW5 : Below wr.heap.size wr W5 := by
        rw [← hW5]
        exact (((((Below.refl _ _).alloc (Nat.le_refl _) _).alloc (by simp) _).alloc (by simp; omega) _).alloc (by simp; omega) _).alloc (by simp; omega) _
      have cn5 : W5.cell? ⟨w.heap.size + 1, 0, none⟩ = some (.map (some w.heap.size)) := (bW5.cell (by exact szn)).trans cn
      have hmm := @run_makeMap Tryz.prog
      have GMR := Lib.hid gm
      have KBR := Lib.hid kb
      have bR : Hid (Below w.heap.size w wr) := B2.out.trans (kb.toBelow (A := w.heap.size) (by omega) (by simp))
      clear gm kb
      have PB : Hid (Blk W5 (wr.heap.size + 1) 49 #[.map (some wr.heap.size)] ∧ Blk W5 (wr.heap.size + 1 + 1) 28 #[.slice none 0 0] ∧ Blk W5 (wr.heap.size + 1 + 1 + 1) 28 #[.slice none 0 0] ∧ Blk W5 (wr.heap.size + 1 + 1 + 1 + 1) 135 #[.func (.func 76) #[] #[.pointer (some ⟨wr.heap.size + 1, 0, none⟩), .pointer (some ⟨wr.heap.size + 1 + 1, 0, none⟩), .pointer (some ⟨wr.heap.size + 1 + 1 + 1, 0, none⟩), .pointer (some ⟨w.heap.size + 1, 0, none⟩), .pointer (some ⟨wr.heap.size + 1 + 1 + 1 + 1, 0, none⟩)]] ∧ IM W5 wr.heap.size [] ∧ W5.heap.size = wr.heap.size + 5) := by
        rw [Hid, ← hW5]
        refine ⟨?_, ?_, ?_, ?_, ?_, by simp⟩
        · have h1 := Blk.new (wr.alloc (.map #[] 0)) 49 #[.map (some wr.heap.size)]
          rw [World.size_alloc] at h1
          exact ((h1.alloc _).alloc _).alloc _
        · have h1 := Blk.new ((wr.alloc (.map #[] 0)).alloc (.cells #[.map (some wr.heap.size)] 49)) 28 #[.slice none 0 0]
          rw [World.size_alloc, World.size_alloc] at h1
          exact (h1.alloc _).alloc _
        · have h1 := Blk.new (((wr.alloc (.map #[] 0)).alloc (.cells #[.map (some wr.heap.size)] 49)).alloc (.cells #[.slice none 0 0] 28)) 28 #[.slice none 0 0]
          rw [World.size_alloc, World.size_alloc, World.size_alloc] at h1
          exact h1.alloc _
        · have h1 := Blk.new ((((wr.alloc (.map #[] 0)).alloc (.cells #[.map (some wr.heap.size)] 49)).alloc (.cells #[.slice none 0 0] 28)).alloc (.cells #[.slice none 0 0] 28)) 135 #[.func (.func 76) #[] #[.pointer (some ⟨wr.heap.size + 1, 0, none⟩), .pointer (some ⟨wr.heap.size + 1 + 1, 0, none⟩), .pointer (some ⟨wr.heap.size + 1 + 1 + 1, 0, none⟩), .pointer (some ⟨w.heap.size + 1, 0, none⟩), .pointer (some ⟨wr.heap.size + 1 + 1 + 1 + 1, 0, none⟩)]]
          rw [World.size_alloc, World.size_alloc, World.size_alloc, World.size_alloc] at h1
          exact h1
        · exact ((((IMap.made wr Tryz.prog 3 3).alloc _).alloc _).alloc _).alloc _
      have GM5 := Lib.hid (GMR.out.below bW5 (Nat.le_refl _))
      have BW5 := Lib.hid bW5
      have BN5 : Hid (Blk W5 (w.heap.size + 1) 134 #[.map (some w.heap.size)]) := (KBR.out.blk BN2.out (by omega) (by simp)).below bW5 szn
      clear bW5
      go_wp2_with fail
      clear hW5 hmm
      refine (keysIS_any _ _).mono ?_
      rintro e w8 ⟨rfl, rfl⟩
      have hcon := Lib.hid (sortedIS_any W5.heap.size w.heap.size L.length w2.heap.size M L (W5.alloc (.cells #[.map (some w.heap.size)] 134)) (by simp) (by simp [go_sem]) (GM5.out.alloc _) (by omega))
      go_wp2_with fail
      refine hcon.out.mono ?_
      rintro e w9 ⟨vk, rfl, ownk, bel9⟩
      have b59 : Below W5.heap.size W5 w9 := ((Below.refl _ _).alloc (Nat.le_refl _) _).trans (bel9.mono (by simp))
      have bs9 := b59.size
      obtain ⟨ak, ck, rfl, _, reck, hak⟩ := rec_of_own (d := (0 : Int)) cI_length (by decide) ownk
      obtain ⟨p1, p2, p3, p4, p5, p6⟩ := PB.out
      have HK9 : Hid (∀ x : Addr, ak = some x → x.block ∉ [wr.heap.size, wr.heap.size + 1 + 1, wr.heap.size + 1 + 1 + 1]) := fun x hx => by have := hak x hx; simp at this; simp; omega
      have OKE : Hid (Env.Ok (envC w9 (wr.heap.size) (w.heap.size) L.length M (nxD L))) := by
        have X0 : ∀ g, g < wr.heap.size → g ∉ (envC w9 wr.heap.size w.heap.size L.length M (nxD L)).X := fun g hg => by simp [Env.X, envC]; omega
        refine ⟨rfl, ?_, ?_, ?_, ?_, p1.below b59 p1.lt, ?_, BN5.out.below b59 BN5.out.lt, X0 _ szn, p4.below b59 p4.lt, ?_, (GM5.out.om).below b59 GM5.out.om.lt, X0 _ (by show w.heap.size < _; omega), ?_⟩
        · show wr.heap.size < w9.heap.size; omega
        · show wr.heap.size + 1 + 1 < w9.heap.size; omega
        · show wr.heap.size + 1 + 1 + 1 < w9.heap.size; omega
        · show wr.heap.size + 1 + 1 ≠ wr.heap.size + 1 + 1 + 1; omega
        · intro h; simp only [Env.X, envC, List.mem_cons, List.not_mem_nil, or_false] at h; omega
        · intro h; simp only [Env.X, envC, List.mem_cons, List.not_mem_nil, or_false] at h; omega
        · intro c hc
          obtain ⟨a, cap, hv, _, hr, _⟩ := rec_of_own (d := (0 : Int)) cI_length (by decide) (GMR.out.rows c)
          refine ⟨a, cap, hv, by have := nxD_len L c; show (nxD L c).length ≤ _; omega, (hr.below (Nat.le_refl _) BW5.out).below (Nat.le_refl _) b59, fun x hx => X0 _ ?_⟩
          have hrow := GMR.out.rows c
          rw [hv] at hrow
          exact row_blk hrow x hx
      have UW := Lib.hid (nodesU_wf WL.out)
      have hUl : (nodesU L).length ≤ 20000 := by simp [nodesU]; omega
      have VA := Lib.hid (visit_any (envC w9 wr.heap.size w.heap.size L.length M (nxD L)) (nodesU L) UW.out (by omega) (nodesU_next L) OKE.out (nodesU L).length)
      have VS : Hid (VW (envC w9 wr.heap.size w.heap.size L.length M (nxD L)) (nodesU L) [] [] w9) :=
        ⟨KB.refl _ _ _, p5.below b59 p5.lt, by simp [keysE], ⟨.slice none 0 0, p2.below b59 p2.lt, World.ownsRow_nil _ _ _ _⟩, ⟨.slice none 0 0, p3.below b59 p3.lt⟩⟩
      have RK9 := Lib.hid reck
      have q9 : wr.heap.size + 5 ≤ w9.heap.size := by omega
      have hkl := keysL_len L
      have B9 : Hid (Below w.heap.size w w9) := (bR.out.trans (BW5.out.mono (by omega))).trans (b59.mono (by omega))
      have FE : Hid (cycL L = if (visL (vis (nxD L) ((nodesU L).length + 1)) (keysL L) [] []).1 = true then (visL (vis (nxD L) ((nodesU L).length + 1)) (keysL L) [] []).2.2.2 else []) := rfl
      clear ownk bel9 b59 reck hak p1 p2 p3 p4 p5 p6 PB cn5 cn
      generalize hQ : wr.heap.size = Q at *
      clear hQ
      go_wp2_with fail
      go_loopw [38] (fun i wr => RelK (envC w9 Q w.heap.size L.length M (nxD L)) (nodesU L) (vis (nxD L) ((nodesU L).length + 1)) (keysL L) i wr) (fun i _ => (keysL L).length - (RowKit.intOf i).toNat)
      case atStart => exact ⟨0, Nat.zero_le _, rfl, rfl, VS.out⟩
      case round =>
        obtain ⟨k, hk, rfl, hnf, vw⟩ := hrel
        have SPJ := Lib.hid (visL_spec (U := nodesU L) (k := (nodesU L).length) (f := vis (nxD L) ((nodesU L).length + 1)) (vis_spec (nodesU_next L) (nodesU L).length) ((keysL L).take k) [] [] (fun x hx => nodesU_keys L x (List.mem_of_mem_take hx)) (unv_le _ _) (DInv.nil _) (fun x _ => .inl rfl))
        have kbr := vw.1
        have kbs9 : w9.heap.size ≤ wr.heap.size := kbr.size
        by_cases hkr : k < (keysL L).length
        · obtain ⟨b1, o1, ha1, hb1, hm1, e1⟩ := int_at (kbr.isRec RK9.out rfl HK9.out) k hkr
          have TS := Lib.hid (take_snocG 0 (keysL L) k hkr)
          have TD : Hid ((keysL L).take (k + 1) ++ (keysL L).drop (k + 1) = keysL L) := List.take_append_drop _ _
          have cv := (kbr.blk OKE.out.vb OKE.out.vb.lt OKE.out.vX).one.1
          have HC := Lib.hid (VA.out (visL (vis (nxD L) ((nodesU L).length + 1)) ((keysL L).take k) [] []).2.1 [] ((keysL L).getD k 0) wr (nodesU_keys L _ hm1) (unv_le _ _) (SPJ.out.inv hnf) (.inl rfl) vw)
          have SN := Lib.hid (visL_snoc (f := vis (nxD L) ((nodesU L).length + 1)) (l := (keysL L).take k) (x := (keysL L).getD k 0) hnf)
          rw [SPJ.out.path hnf, ← TS.out] at SN
          generalize (keysL L).getD k 0 = x at *
          subst ha1
          unfold Env.clo ptr envC at cv
          simp only at cv
          unfold ptr envC at HC
          simp only at HC
          clear vw kbr hm1 TS
          go_wp2_with fail
          refine HC.out.mono ?_
          rintro en w4 ⟨rfl, ⟨hr, hkb, vc, hbc, hown⟩ | ⟨hr, hvw⟩⟩
          · rw [hr]
            have hkb' : KB w9.heap.size [Q, Q + 1 + 1, Q + 1 + 1 + 1] w9 w4 := hkb
            have hbc' : Blk w4 (Q + 1 + 1 + 1) 28 #[vc] := hbc
            have cc4 := hbc'.one.1
            have F : Hid (IntsPost (cycD ds) w (.returned vc) w4) := by
              rw [if_pos hr] at SN
              have hfd : (visL (vis (nxD L) ((nodesU L).length + 1)) ((keysL L).take (k + 1)) [] []).1 = true := by rw [SN.out]; exact hr
              have h2 := visL_found (m := (keysL L).drop (k + 1)) hfd
              rw [TD.out, SN.out] at h2
              rw [Hid, UE.out, FE.out, h2, if_pos hr]
              refine ⟨vc, rfl, own_mono hown (by show w.heap.size ≤ w9.heap.size; omega), B9.out.trans (hkb'.toBelow (A := w.heap.size) (by omega) (by simp; omega))⟩
            clear hkb hbc hown hr hkb' hbc' HC SN SPJ
            go_wp2_with fail
            go_ret
            exact F.out
          · rw [hr]
            have R : Hid (RelK (envC w9 Q w.heap.size L.length M (nxD L)) (nodesU L) (vis (nxD L) ((nodesU L).length + 1)) (keysL L) (.int .i64 ((k + 1 : Nat) : Int)) w4) := by
              rw [if_neg (by rw [hr]; simp)] at SN
              refine ⟨k + 1, by omega, rfl, by rw [SN.out], ?_⟩
              rw [SN.out]
              have hnf2 : (visL (vis (nxD L) ((nodesU L).length + 1)) ((keysL L).take (k + 1)) [] []).1 = false := by rw [SN.out]
              have hs2 := visL_spec (U := nodesU L) (k := (nodesU L).length) (f := vis (nxD L) ((nodesU L).length + 1)) (vis_spec (nodesU_next L) (nodesU L).length) ((keysL L).take (k + 1)) [] [] (fun x hx => nodesU_keys L x (List.mem_of_mem_take hx)) (unv_le _ _) (DInv.nil _) (fun x _ => .inl rfl)
              have hp2 := hs2.path hnf2
              rw [SN.out] at hp2
              simp only at hp2 ⊢
              rw [hp2] at hvw
              exact hvw
            clear hvw hr HC SN SPJ
            go_wp2_with fail
            exact ⟨by simpa using R.out, by simp [RowKit.intOf]; omega⟩
        · obtain rfl : k = (keysL L).length := by omega
          rw [List.take_length] at hnf
          have hkb' : KB w9.heap.size [Q, Q + 1 + 1, Q + 1 + 1 + 1] w9 wr := kbr
          have F : Hid (IntsPost (cycD ds) w (.returned (.slice none 0 0)) wr) := by
            rw [Hid, UE.out, FE.out, if_neg (by rw [hnf]; simp)]
            exact ⟨_, rfl, World.ownsRow_nil _ _ _ _, B9.out.trans (hkb'.toBelow (A := w.heap.size) (by omega) (by simp; omega))⟩
          clear vw kbr hkb' hnf SPJ
          go_wp2_with fail
          go_ret
          exact F.out
end Go.Proofs.YtljojgpjgjfddaaGreat
