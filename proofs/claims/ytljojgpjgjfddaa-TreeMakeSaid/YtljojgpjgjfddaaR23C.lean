/- The contract of the reference's Make. -/
import Derived.Test.YtljojgpjgjfddaaR23B
import Derived.Test.YtljojgpjgjfddaaR23Q
import Derived.Test.YtljojgpjgjfddaaTMkB
import Derived.Test.YtljojgpjgjfddaaR14b
namespace Go.Proofs.Ytljojgpjgjfddaa
open Go.RowKit Go.Maps
set_option linter.unusedVariables false
set_option linter.unusedSimpArgs false

theorem IsRec.takeT {w : World} {a : Option Addr} {l : List Int} (h : IsRec 1 cI 0 w a l.length l) {k : Nat} (hk : k ≤ l.length) : IsRec 1 cI 0 w a (l.take k).length (l.take k) := by
  refine ⟨rfl, fun h0 => ?_⟩
  rw [List.length_take] at h0
  obtain ⟨b, off, e, hb, hc⟩ := h.2 (by omega)
  refine ⟨b, off, e, hb, fun i j hi hj => ?_⟩
  rw [List.length_take] at hi
  rw [hc i j (by omega) hj]
  have : (l.take k).getD i 0 = l.getD i 0 := by simp [List.getD, List.getElem?_take, show i < k by omega]
  rw [this]
def MkP23 (ns : List Nd) (cs : List Cb) (lv ms : List Int) (s : Int) (w : World) (e : Ending) (w' : World) : Prop :=
  Below w.heap.size w w' ∧ ((tErr ⟨ns, cs⟩ lv ms s ≠ 0 ∧ e = .returned (.tuple #[.agg #[.int .i64 0, .slice none 0 0, .slice none 0 0], .int .i64 (tErr ⟨ns, cs⟩ lv ms s)])) ∨
    (tErr ⟨ns, cs⟩ lv ms s = 0 ∧ ∃ k : Nat, s = k ∧ MOk ns cs lv ms k ∧ ∃ aO aD cO cD, e = .returned (.tuple #[trV (mkT ns cs lv ms k) aO aD cO cD, .int .i64 0]) ∧ IsTree w' aO aD (mkT ns cs lv ms k)))
def RelAl (pr : Int → Bool) (ms : List Int) (w0 : World) (i : Value) (wr : World) : Prop := ∃ k : Nat, k ≤ ms.length ∧ i = .int .i64 k ∧ (ms.take k).all pr = true ∧ w0 = wr
def RelTq (ms : List Int) (w0 : World) (i : Value) (wr : World) : Prop := ∃ k : Nat, k ≤ ms.length ∧ i = .int .i64 k ∧ twTo sameI 0 ms k = false ∧ Below w0.heap.size w0 wr
theorem all_snocI (pr : Int → Bool) {ms : List Int} {k : Nat} (hk : k < ms.length) : (ms.take (k + 1)).all pr = ((ms.take k).all pr && pr (ms.getD k 0)) := by rw [take_snocG 0 ms k hk, List.all_append]; simp
theorem all_badI (pr : Int → Bool) {ms : List Int} {k : Nat} (hk : k < ms.length) (h : pr (ms.getD k 0) = false) : ms.all pr = false := by
  rw [List.all_eq_false]; exact ⟨ms.getD k 0, by simp [List.getD, hk], by rw [h]; simp⟩
/-- The tree while the reference's Make is at work. -/
def M23 (n : Nat) (sn : Int) (bO bt : Nat) (L : List (Nat × Int)) (dl : List Int) (wr : World) : Prop :=
  ∃ (V : Nat → Value) (aD : Option Addr) (cD : Nat), Blk wr bt 64 #[.int .i64 sn, .slice (some ⟨bO, 0, none⟩) n n, .slice aD dl.length cD] ∧ RBlk wr bO 35 1 n (fun u => [V u]) ∧ IsRec 1 cI 0 wr aD dl.length dl ∧ (∀ x, aD = some x → bt < x.block) ∧
    ∀ u, u < n → ∃ ar cap, V u = .slice ar (row23 L u).length cap ∧ IsRec 1 cI 0 wr ar (row23 L u).length (row23 L u) ∧ ∀ x, ar = some x → bt < x.block
theorem M23.below {n : Nat} {sn : Int} {bO bt : Nat} {L : List (Nat × Int)} {dl : List Int} {wr w' : World} (h : M23 n sn bO bt L dl wr) (hb : Below wr.heap.size wr w') : M23 n sn bO bt L dl w' := by
  obtain ⟨V, aD, cD, h1, h2, h3, h4, h5⟩ := h
  exact ⟨V, aD, cD, h1.below hb h1.lt, h2.below hb h2.lt, h3.below (Nat.le_refl _) hb, h4, fun u hu => by
    obtain ⟨ar, cap, e, hr, hx⟩ := h5 u hu
    exact ⟨ar, cap, e, hr.below (Nat.le_refl _) hb, hx⟩⟩
theorem M23.setDel {n : Nat} {sn : Int} {bO bt : Nat} {L : List (Nat × Int)} {dl dl' : List Int} {wr : World} (h : M23 n sn bO bt L dl wr) (hlt : bO < bt) {a' : Option Addr} {c' : Nat} (hr : IsRec 1 cI 0 wr a' dl'.length dl') (hx : ∀ x, a' = some x → bt < x.block) : M23 n sn bO bt L dl' (wr.setCell ⟨bt, 2, none⟩ (.slice a' dl'.length c')) := by
  obtain ⟨V, aD, cD, h1, h2, h3, h4, h5⟩ := h
  refine ⟨V, a', c', h1.set_ 2 _, h2.far (p := ⟨bt, 2, none⟩) (by dsimp only; omega) _, hr.farT (p := ⟨bt, 2, none⟩) (fun x h => by have := hx x h; dsimp only; omega) _, hx, fun u hu => ?_⟩
  obtain ⟨ar, cap, e, hr2, hx2⟩ := h5 u hu
  exact ⟨ar, cap, e, hr2.farT (p := ⟨bt, 2, none⟩) (fun x h => by have := hx2 x h; dsimp only; omega) _, hx2⟩
theorem M23.setRow {n : Nat} {sn : Int} {bO bt : Nat} {L : List (Nat × Int)} {dl : List Int} {wr : World} {u : Nat} {i : Int} (h : M23 n sn bO bt L dl wr) (hlt : bO < bt) (hu : u < n) {a' : Option Addr} {c' : Nat} (hr : IsRec 1 cI 0 wr a' (insA (row23 L u) i).length (insA (row23 L u) i)) (hx : ∀ x, a' = some x → bt < x.block) :
    M23 n sn bO bt (L ++ [(u, i)]) dl (wr.setCell ⟨bO, u, none⟩ (.slice a' (insA (row23 L u) i).length c')) := by
  obtain ⟨V, aD, cD, h1, h2, h3, h4, h5⟩ := h
  refine ⟨upd1 V u (.slice a' (insA (row23 L u) i).length c'), aD, cD, h1.far (p := ⟨bO, u, none⟩) (by dsimp only; omega) _, (h2.set1 hu _).congr fun a ha => ?_, h3.farT (p := ⟨bO, u, none⟩) (fun x h => by have := h4 x h; dsimp only; omega) _, h4, fun a ha => ?_⟩
  · unfold setR
    by_cases e : a = u
    · subst e; rw [if_pos rfl, upd1_same]; rfl
    · rw [if_neg e, upd1_other V _ e]
  · by_cases e : a = u
    · subst e
      rw [upd1_same, row23_same]
      exact ⟨a', c', rfl, hr.farT (p := ⟨bO, a, none⟩) (fun x h => by have := hx x h; dsimp only; omega) _, hx⟩
    · rw [upd1_other V _ e, row23_other L i e]
      obtain ⟨ar, cap, e2, hr2, hx2⟩ := h5 a ha
      exact ⟨ar, cap, e2, hr2.farT (p := ⟨bO, u, none⟩) (fun x h => by have := hx2 x h; dsimp only; omega) _, hx2⟩
theorem M23.cells {n : Nat} {sn : Int} {bO bt : Nat} {L : List (Nat × Int)} {dl : List Int} {wr : World} (h : M23 n sn bO bt L dl wr) : ∃ aD cD, (wr.cell? ⟨bt, 1, none⟩ = some (.slice (some ⟨bO, 0, none⟩) n n) ∧ wr.cell? ⟨bt, 2, none⟩ = some (.slice aD dl.length cD)) ∧ IsRec 1 cI 0 wr aD dl.length dl ∧ (∀ x, aD = some x → bt < x.block) ∧ bt < wr.heap.size ∧ bO < wr.heap.size ∧
    ∀ w', Below wr.heap.size wr w' → (w'.cell? ⟨bt, 2, none⟩ = some (.slice aD dl.length cD) ∧ w'.frozen? ⟨bt, 2, none⟩ = false) := by
  obtain ⟨V, aD, cD, h1, h2, h3, h4, h5⟩ := h
  exact ⟨aD, cD, ⟨h1.cell 1, h1.cell 2⟩, h3, h4, h1.lt, h2.lt, fun w' hb => ⟨(h1.below hb h1.lt).cell 2, (h1.below hb h1.lt).frozen 2⟩⟩
theorem M23.rowAt {n : Nat} {sn : Int} {bO bt : Nat} {L : List (Nat × Int)} {dl : List Int} {wr : World} (h : M23 n sn bO bt L dl wr) {u : Nat} (hu : u < n) : ∃ ar cap, wr.cell? ⟨bO, u, none⟩ = some (.slice ar (row23 L u).length cap) ∧ IsRec 1 cI 0 wr ar (row23 L u).length (row23 L u) ∧ (∀ x, ar = some x → bt < x.block) ∧
    ∀ w', Below wr.heap.size wr w' → (w'.cell? ⟨bO, u, none⟩ = some (.slice ar (row23 L u).length cap) ∧ w'.frozen? ⟨bO, u, none⟩ = false) := by
  obtain ⟨V, aD, cD, h1, h2, h3, h4, h5⟩ := h
  obtain ⟨ar, cap, e, hr, hx⟩ := h5 u hu
  have hc : ∀ {w' : World}, RBlk w' bO 35 1 n (fun u => [V u]) → w'.cell? ⟨bO, u, none⟩ = some (.slice ar (row23 L u).length cap) := fun hr' => by
    have := hr'.cell (i := u) (j := 0) hu (by omega)
    rw [show u * 1 + 0 = u by omega] at this
    rw [this, ← e]; rfl
  exact ⟨ar, cap, hc h2, hr, hx, fun w' hb => ⟨hc (h2.below hb h2.lt), (h2.below hb h2.lt).frozen u⟩⟩
theorem row_len {cs : List Cb} {L : List (Nat × Int)} {u : Nat} (h : ∀ p ∈ L, ∃ k : Nat, p.2 = k ∧ k < cs.length) : (row23 L u).length ≤ cs.length :=
  asc_len (insL23_asc _) (fun x hx => by
    have h1 := (mem_insL23 (outAt L u) x).1 hx
    rw [outAt_mem] at h1
    obtain ⟨k, hk, hl⟩ := h _ h1
    simp only at hk
    omega)
theorem wp_ok {ns : List Nd} {cs : List Cb} {lv : List Int} {s m : Nat} (T : TOk ns cs lv) (hs : s < ns.length) (hm : m < ns.length) (s0 : 0 ≤ lv.getD s 0) (m0 : 0 ≤ lv.getD m 0) : ∀ p ∈ wpairs cs lv (ns.length + ns.length + 1) s m,
    ∃ k : Nat, p.2 = k ∧ k < cs.length ∧ p.1 < ns.length ∧ touchT (cs.getD k cb0) p.1 (othN cs p.1 k) ∧ othN cs p.1 k < ns.length := fun p hp =>
  wpairs_touch T hs hm s0 m0 (by have := (T.lt s hs).2; have := (T.lt m hm).2; push_cast; omega) hp
theorem M23.tree {ns : List Nd} {cs : List Cb} {lv ms : List Int} {sn bO : Nat} {wr : World} (mo : MOk ns cs lv ms sn) (h : M23 ns.length (sn : Int) bO (bO + 1) (prs ns cs lv sn ms) (insL23 ms) wr) {g : Nat} (hg : g < bO) :
    ∃ aD cD, (wr.cell? ⟨bO + 1, 0, none⟩ = some (.int .i64 (sn : Int)) ∧ wr.cell? ⟨bO + 1, 1, none⟩ = some (.slice (some ⟨bO, 0, none⟩) ns.length ns.length) ∧ wr.cell? ⟨bO + 1, 2, none⟩ = some (.slice aD (delM ms).length cD)) ∧
      ∀ v0 v1 v2, IsTree (((wr.setCell ⟨g, 0, none⟩ v0).setCell ⟨g, 1, none⟩ v1).setCell ⟨g, 2, none⟩ v2) (some ⟨bO, 0, none⟩) aD (mkT ns cs lv ms sn) := by
  obtain ⟨V, aD, cD, h1, h2, h3, h4, h5⟩ := h
  rw [mo.del23_eq] at h1 h3
  have hl : (mkT ns cs lv ms sn).out.length = ns.length := by unfold mkT; simp
  refine ⟨aD, cD, ⟨h1.cell 0, h1.cell 1, h1.cell 2⟩, fun v0 v1 v2 => ⟨⟨rfl, fun h0 => ⟨bO, 0, rfl, by simpa [World.setCell] using h2.lt, fun u hu => ?_⟩⟩, rec3 h3 (fun x e => by have := h4 x e; omega) v0 v1 v2⟩⟩
  rw [hl] at hu
  obtain ⟨ar, cap, e, hr, hx⟩ := h5 u hu
  have er : (mkT ns cs lv ms sn).out.getD u [] = makeOut ns cs lv ms sn u := by unfold mkT; simp [List.getD, hu]
  rw [er, ← mo.row23_eq]
  refine ⟨ar, cap, rec3 hr (fun x e => by have := hx x e; omega) v0 v1 v2, ?_⟩
  have h6 := (((h2.far (p := ⟨g, 0, none⟩) (by dsimp only; omega) v0).far (p := ⟨g, 1, none⟩) (by dsimp only; omega) v1).far (p := ⟨g, 2, none⟩) (by dsimp only; omega) v2).cell (i := u) (j := 0) hu (by omega)
  rw [Nat.zero_add]
  rw [show u * 1 + 0 = u by omega] at h6
  rw [h6, ← e]; rfl
theorem MOk.prs_ok {ns : List Nd} {cs : List Cb} {lv ms : List Int} {s : Nat} (h : MOk ns cs lv ms s) {l : List Int} (hl : ∀ m ∈ l, m ∈ ms) : ∀ p ∈ prs ns cs lv s l, ∃ k : Nat, p.2 = k ∧ k < cs.length := fun p hp => by
  unfold prs at hp
  obtain ⟨m, hm, hq⟩ := List.mem_flatMap.1 hp
  obtain ⟨h0, h1, h2⟩ := h.node m (hl m hm)
  obtain ⟨k, hk, hkl, _⟩ := wp_ok h.T h.hs (by omega) h.s0 h2 p hq
  exact ⟨k, hk, hkl⟩
def RelM1 (ns : List Nd) (cs : List Cb) (lv ms : List Int) (sn bO bt : Nat) (w1 : World) (i : Value) (wr : World) : Prop :=
  ∃ j : Nat, j ≤ ms.length ∧ i = .int .i64 j ∧ M23 ns.length sn bO bt (prs ns cs lv sn (ms.take j)) (insL23 (ms.take j)) wr ∧ Below w1.heap.size w1 wr
def RelM2 (ns : List Nd) (cs : List Cb) (sn bO bt b : Nat) (L0 : List (Nat × Int)) (W : List (Nat × Int)) (dl : List Int) (pa : Option Addr) (w1 : World) (uv i : Value) (wr : World) : Prop :=
  ∃ k u : Nat, k ≤ W.length ∧ i = .int .i64 k ∧ uv = .int .i64 u ∧ chn cs u (W.drop k) b ∧ M23 ns.length sn bO bt (L0 ++ W.take k) dl wr ∧ IsRec 1 cI 0 wr pa W.length (W.map (·.2)) ∧ Below w1.heap.size w1 wr
set_option maxRecDepth 100000 in
set_option maxHeartbeats 8000000 in
theorem make23_any (ns : List Nd) (cs : List Cb) (lv ms : List Int) (s : Int) (An Ac Al Am : Option Addr) (cn cc cl cm : Nat) (w : World) (hl : ns.length ≤ 1000) (hl2 : cs.length ≤ 1000) (hlv : lv.length ≤ 1000) (hwl : WfI lv) (hms : ms.length ≤ 100) (hwm : WfI ms) (hcm : ms.length ≤ cm)
    (h : IsPlan w An Ac ⟨ns, cs⟩) (h2 : IsRec 1 cI 0 w Al lv.length lv) (h3 : IsRec 1 cI 0 w Am ms.length ms) :
    Calls Try.prog 29 #[.agg #[.slice An ns.length cn, .slice Ac cs.length cc], .slice Al lv.length cl, .int .i64 s, .slice Am ms.length cm] w (MkP23 ns cs lv ms s w) := by
  obtain ⟨w1, hw1⟩ : ∃ w1 : World, (w.alloc (.cells #[.slice An ns.length cn, .slice Ac cs.length cc] 25)).alloc (.cells #[.int .i64 0, .slice none 0 0, .slice none 0 0] 64) = w1 := ⟨_, rfl⟩
  have s0 : w1.cell? ⟨w.heap.size, 0, none⟩ = some (.slice An ns.length cn) := by rw [← hw1]; simp [go_sem]
  have s1 : w1.cell? ⟨w.heap.size, 1, none⟩ = some (.slice Ac cs.length cc) := by rw [← hw1]; simp [go_sem]
  have b8 : Blk w1 (w.heap.size + 1) 64 #[.int .i64 0, .slice none 0 0, .slice none 0 0] := by
    rw [← hw1]; have := Blk.new (w.alloc (.cells #[.slice An ns.length cn, .slice Ac cs.length cc] 25)) 64 #[.int .i64 0, .slice none 0 0, .slice none 0 0]; simpa using this
  have sz1 : w1.heap.size = w.heap.size + 2 := by rw [← hw1]; simp
  have BW0 : Below w.heap.size w w1 := by rw [← hw1]; exact ((Below.refl _ _).alloc (Nat.le_refl _) _).alloc (by simp) _
  have H1 := Lib.hid (h.below (Nat.le_refl _) BW0)
  have L1 := Lib.hid (h2.below (Nat.le_refl _) BW0)
  have M1 := Lib.hid (h3.below (Nat.le_refl _) BW0)
  have HW1 := Lib.hid hw1
  have WL := Lib.hid hwl
  have WM := Lib.hid hwm
  have KC : Hid (∀ w', Below w1.heap.size w1 w' → (w'.cell? ⟨w.heap.size, 0, none⟩ = some (.slice An ns.length cn) ∧ w'.cell? ⟨w.heap.size, 1, none⟩ = some (.slice Ac cs.length cc)) ∧ Blk w' (w.heap.size + 1) 64 #[.int .i64 0, .slice none 0 0, .slice none 0 0] ∧ Below w.heap.size w w' ∧ IsPlan w' An Ac ⟨ns, cs⟩ ∧ IsRec 1 cI 0 w' Al lv.length lv ∧ IsRec 1 cI 0 w' Am ms.length ms) :=
    fun w' hb => ⟨⟨(hb.cell (by show w.heap.size < _; omega)).trans s0, (hb.cell (by show w.heap.size < _; omega)).trans s1⟩, b8.below hb (by omega), BW0.trans (hb.mono (by omega)), H1.out.below (Nat.le_refl _) hb, L1.out.below (Nat.le_refl _) hb, M1.out.below (Nat.le_refl _) hb⟩
  have FINE : Hid (∀ te : Int, tErr ⟨ns, cs⟩ lv ms s = te → te ≠ 0 → ∀ w', Below w1.heap.size w1 w' → MkP23 ns cs lv ms s w (.returned (.tuple #[.agg #[.int .i64 0, .slice none 0 0, .slice none 0 0], .int .i64 te])) (((w'.setCell ⟨w.heap.size + 1, 0, none⟩ (.int .i64 0)).setCell ⟨w.heap.size + 1, 1, none⟩ (.slice none 0 0)).setCell ⟨w.heap.size + 1, 2, none⟩ (.slice none 0 0))) := fun te h hn w' hb =>
    ⟨below_setS (below_setS (below_setS (BW0.trans (hb.mono (by omega))) (by dsimp only; omega)) (by dsimp only; omega)) (by dsimp only; omega), .inl ⟨by rw [h]; exact hn, by rw [h]⟩⟩
  have VC := Lib.hid (r14valid_any ⟨ns, cs⟩ An Ac cn cc w1 (by show ns.length ≤ _; omega) (by show cs.length ≤ _; omega) H1.out)
  clear h h2 h3 hw1 hwl hwm b8 BW0
  cases hv : validP ⟨ns, cs⟩ == 0 with
  | false =>
    have HB : Hid (orderB ⟨ns, cs⟩ lv = false) := ob1 (by simpa using hv)
    have hv2 : (validP ⟨ns, cs⟩ != 0) = true := by rw [bne, hv]; rfl
    clear hv
    generalize validP ⟨ns, cs⟩ = z at *
    go_enter Try.func29, Try.ntmps29
    go_wp2_with fail
    rw [HW1.out]
    go_wp2_with fail
    refine VC.out.mono ?_
    rintro e w2 ⟨rfl, bel⟩
    clear s0 s1 VC
    obtain ⟨_, ub, _⟩ := KC.out w2 bel
    have z0 : w2.cell? ⟨w.heap.size + 1, 0, none⟩ = some (.int .i64 0) := ub.cell 0
    have z1 : w2.cell? ⟨w.heap.size + 1, 1, none⟩ = some (.slice none 0 0) := ub.cell 1
    have z2 : w2.cell? ⟨w.heap.size + 1, 2, none⟩ = some (.slice none 0 0) := ub.cell 2
    have f0 := ub.frozen 0
    have f1 := ub.frozen 1
    have f2 := ub.frozen 2
    have FE := Lib.hid (FINE.out 1 (te1 HB.out) (by decide) w2 bel)
    clear ub
    go_wp2_with fail
    refine bodyPost_ret (v := .tuple #[.agg #[.int .i64 0, .slice none 0 0, .slice none 0 0], .int .i64 1]) (by simp [results, Try.results29, go_sem, z0, z1, z2]) rfl ?_
    exact FE.out
  | true =>
    have HV : Hid (validP ⟨ns, cs⟩ = 0) := by rw [Hid]; simpa using hv
    rw [HV.out] at VC
    clear hv
    go_enter Try.func29, Try.ntmps29
    go_wp2_with fail
    rw [HW1.out]
    go_wp2_with fail
    refine VC.out.mono ?_
    rintro e w2 ⟨rfl, bel⟩
    have B2 := Lib.hid bel
    clear s0 s1 VC bel
    obtain ⟨⟨c0, c1⟩, _, _, pl2, lr2, _⟩ := KC.out w2 B2.out
    have FC := Lib.hid (fits17_any ns cs lv An Ac Al cn cc cl w2 HV.out (by omega) WL.out pl2 lr2)
    clear pl2 lr2
    go_wp2_with fail
    refine FC.out.mono ?_
    rintro e w3 ⟨rfl, bel3⟩
    have B3 : Hid (Below w1.heap.size w1 w3) := B2.out.trans (bel3.mono B2.out.size)
    clear bel3 FC c0 c1
    cases ho : orderB ⟨ns, cs⟩ lv with
    | false =>
      obtain ⟨_, ub, _⟩ := KC.out w3 B3.out
      have z0 : w3.cell? ⟨w.heap.size + 1, 0, none⟩ = some (.int .i64 0) := ub.cell 0
      have z1 : w3.cell? ⟨w.heap.size + 1, 1, none⟩ = some (.slice none 0 0) := ub.cell 1
      have z2 : w3.cell? ⟨w.heap.size + 1, 2, none⟩ = some (.slice none 0 0) := ub.cell 2
      have f0 := ub.frozen 0
      have f1 := ub.frozen 1
      have f2 := ub.frozen 2
      have FE := Lib.hid (FINE.out 1 (te1 ho) (by decide) w3 B3.out)
      clear ub
      go_wp2_with fail
      refine bodyPost_ret (v := .tuple #[.agg #[.int .i64 0, .slice none 0 0, .slice none 0 0], .int .i64 1]) (by simp [results, Try.results29, go_sem, z0, z1, z2]) rfl ?_
      exact FE.out
    | true =>
      have HO := Lib.hid ho
      obtain ⟨⟨c0, c1⟩, _⟩ := KC.out w3 B3.out
      have hll : Hid (lv.length = ns.length) := (orderB_spec ho).2.1
      clear ho
      by_cases hs0 : s < 0
      · have hn : isNodeB ns s = false := by unfold isNodeB; simp; omega
        obtain ⟨_, ub, _⟩ := KC.out w3 B3.out
        have z0 : w3.cell? ⟨w.heap.size + 1, 0, none⟩ = some (.int .i64 0) := ub.cell 0
        have z1 : w3.cell? ⟨w.heap.size + 1, 1, none⟩ = some (.slice none 0 0) := ub.cell 1
        have z2 : w3.cell? ⟨w.heap.size + 1, 2, none⟩ = some (.slice none 0 0) := ub.cell 2
        have f0 := ub.frozen 0
        have f1 := ub.frozen 1
        have f2 := ub.frozen 2
        have FE := Lib.hid (FINE.out 2 (te2 HO.out hn) (by decide) w3 B3.out)
        clear ub
        go_wp2_with fail
        refine bodyPost_ret (v := .tuple #[.agg #[.int .i64 0, .slice none 0 0, .slice none 0 0], .int .i64 2]) (by simp [results, Try.results29, go_sem, z0, z1, z2]) rfl ?_
        exact FE.out
      · by_cases hs1 : (ns.length : Int) ≤ s
        · have hn : isNodeB ns s = false := by unfold isNodeB; simp; omega
          obtain ⟨_, ub, _⟩ := KC.out w3 B3.out
          have z0 : w3.cell? ⟨w.heap.size + 1, 0, none⟩ = some (.int .i64 0) := ub.cell 0
          have z1 : w3.cell? ⟨w.heap.size + 1, 1, none⟩ = some (.slice none 0 0) := ub.cell 1
          have z2 : w3.cell? ⟨w.heap.size + 1, 2, none⟩ = some (.slice none 0 0) := ub.cell 2
          have f0 := ub.frozen 0
          have f1 := ub.frozen 1
          have f2 := ub.frozen 2
          have FE := Lib.hid (FINE.out 2 (te2 HO.out hn) (by decide) w3 B3.out)
          clear ub
          go_wp2_with fail
          refine bodyPost_ret (v := .tuple #[.agg #[.int .i64 0, .slice none 0 0, .slice none 0 0], .int .i64 2]) (by simp [results, Try.results29, go_sem, z0, z1, z2]) rfl ?_
          exact FE.out
        · have HN : Hid (isNodeB ns s = true) := by rw [Hid]; unfold isNodeB; simp; omega
          go_wp2_with fail
          go_loopw [11] (fun i wr => RelAl (isNodeB ns) ms w3 i wr) (fun i _ => ms.length - (RowKit.intOf i).toNat)
          case atStart => exact ⟨0, Nat.zero_le _, rfl, by simp, rfl⟩
          case round =>
            obtain ⟨k, hk, rfl, hall, rfl⟩ := hrel
            have HA := Lib.hid hall
            clear hall
            by_cases hkr : k < ms.length
            · obtain ⟨b1, o1, ha1, hb1, hm1, e1⟩ := int_at ((KC.out w3 B3.out).2.2.2.2.2) k hkr
              have SN := Lib.hid (all_snocI (isNodeB ns) hkr)
              have BD : Hid (isNodeB ns (ms.getD k 0) = false → ms.all (isNodeB ns) = false) := all_badI (isNodeB ns) hkr
              have wfx := WM.out _ hm1
              generalize ms.getD k 0 = x at *
              subst ha1
              have ki : (k : Int) < (ms.length : Int) := by omega
              clear hm1
              by_cases hx0 : x < 0
              · have hn : isNodeB ns x = false := by unfold isNodeB; simp; omega
                obtain ⟨_, ub, _⟩ := KC.out w3 B3.out
                have z0 : w3.cell? ⟨w.heap.size + 1, 0, none⟩ = some (.int .i64 0) := ub.cell 0
                have z1 : w3.cell? ⟨w.heap.size + 1, 1, none⟩ = some (.slice none 0 0) := ub.cell 1
                have z2 : w3.cell? ⟨w.heap.size + 1, 2, none⟩ = some (.slice none 0 0) := ub.cell 2
                have f0 := ub.frozen 0
                have f1 := ub.frozen 1
                have f2 := ub.frozen 2
                have FE := Lib.hid (FINE.out 2 (te3 HO.out HN.out (BD.out hn)) (by decide) w3 B3.out)
                clear ub
                go_wp2_with fail
                refine bodyPost_ret (v := .tuple #[.agg #[.int .i64 0, .slice none 0 0, .slice none 0 0], .int .i64 2]) (by simp [results, Try.results29, go_sem, z0, z1, z2]) rfl ?_
                exact FE.out
              · by_cases hx1 : (ns.length : Int) ≤ x
                · have hn : isNodeB ns x = false := by unfold isNodeB; simp; omega
                  obtain ⟨_, ub, _⟩ := KC.out w3 B3.out
                  have z0 : w3.cell? ⟨w.heap.size + 1, 0, none⟩ = some (.int .i64 0) := ub.cell 0
                  have z1 : w3.cell? ⟨w.heap.size + 1, 1, none⟩ = some (.slice none 0 0) := ub.cell 1
                  have z2 : w3.cell? ⟨w.heap.size + 1, 2, none⟩ = some (.slice none 0 0) := ub.cell 2
                  have f0 := ub.frozen 0
                  have f1 := ub.frozen 1
                  have f2 := ub.frozen 2
                  have FE := Lib.hid (FINE.out 2 (te3 HO.out HN.out (BD.out hn)) (by decide) w3 B3.out)
                  clear ub
                  go_wp2_with fail
                  refine bodyPost_ret (v := .tuple #[.agg #[.int .i64 0, .slice none 0 0, .slice none 0 0], .int .i64 2]) (by simp [results, Try.results29, go_sem, z0, z1, z2]) rfl ?_
                  exact FE.out
                · have hn : isNodeB ns x = true := by unfold isNodeB; simp; omega
                  have R : Hid (RelAl (isNodeB ns) ms w3 (.int .i64 ((k + 1 : Nat) : Int)) w3) := ⟨k + 1, by omega, rfl, by rw [SN.out, HA.out, hn]; rfl, rfl⟩
                  clear SN BD hn
                  go_wp2_with fail
                  exact ⟨by simpa using R.out, by simp [RowKit.intOf]; omega⟩
            · obtain rfl : k = ms.length := by omega
              rw [List.take_length] at HA
              go_wp2_with fail
              go_loopw [12] (fun i wr => RelTq ms w3 i wr) (fun i _ => ms.length - (RowKit.intOf i).toNat)
              case atStart => exact ⟨0, Nat.zero_le _, rfl, rfl, Below.refl _ _⟩
              case round =>
                obtain ⟨k, hk, rfl, htw, bel⟩ := hrel
                have HTW := Lib.hid htw
                have BE := Lib.hid bel
                have B4 : Hid (Below w1.heap.size w1 wr) := B3.out.trans (bel.mono B3.out.size)
                clear htw bel c0 c1
                by_cases hkr : k < ms.length
                · obtain ⟨b1, o1, ha1, hb1, hm1, e1⟩ := int_at ((KC.out wr B4.out).2.2.2.2.2) k hkr
                  have tk : (ms.take k).length = k := by rw [List.length_take]; omega
                  have HSC := Lib.hid (fun (w' : World) (hb : Below w1.heap.size w1 w') => has23_any (ms.take k) (ms.getD k 0) Am cm w' (by rw [tk]; omega) (((KC.out w' hb).2.2.2.2.2).takeT (by omega)))
                  rw [tk] at HSC
                  have TS : Hid (twTo sameI 0 ms (k + 1) = (twTo sameI 0 ms k || decide (ms.getD k 0 ∈ ms.take k))) := by
                    rw [Hid, twTo_succ]
                    congr 1
                    rw [Bool.eq_iff_iff, List.any_eq_true, decide_eq_true_iff]
                    constructor
                    · rintro ⟨y, hy, e⟩
                      have : y = ms.getD k 0 := by simpa [sameI] using e
                      rw [← this]; exact hy
                    · intro hy; exact ⟨_, hy, by simp [sameI]⟩
                  have TW : Hid (twTo sameI 0 ms (k + 1) = true → twTo sameI 0 ms ms.length = true) := fun h => twTo_mono sameI 0 ms (k + 1) h ms.length (by omega)
                  generalize ms.getD k 0 = x at *
                  subst ha1
                  have ki : (k : Int) < (ms.length : Int) := by omega
                  have kc : (k : Int) ≤ (cm : Int) := by omega
                  clear hm1 tk
                  cases hd : decide (x ∈ ms.take k)
                  all_goals
                    rw [hd] at HSC TS
                    go_wp2_with fail
                    go_region_held3 (fun w' => w'.cell? ⟨b1, o1 + k, none⟩ = some (.int .i64 x)) (first | exact e1)
                      (first | (go_at_call 63; refine (HSC.out _ (by repeat (first | exact B4.out | refine Below.drew ?_))).mono ?_; rintro e w5 ⟨rfl, rfl⟩))
                    all_goals
                      have B5 : Hid (Below w1.heap.size w1 wr.drew) := B4.out.drew
                      have BE5 : Hid (Below w3.heap.size w3 wr.drew) := BE.out.drew
                      generalize wr.drew = wd at *
                      clear e1
                      first
                        | (have R : Hid (RelTq ms w3 (.int .i64 ((k + 1 : Nat) : Int)) wd) := ⟨k + 1, by omega, rfl, by rw [TS.out, HTW.out]; rfl, BE5.out⟩
                           go_wp2_with fail
                           exact ⟨by simpa using R.out, by simp [RowKit.intOf]; omega⟩)
                        | (have HT : Hid (twTo sameI 0 ms ms.length = true) := TW.out (by rw [TS.out]; simp)
                           obtain ⟨_, ub, _⟩ := KC.out wd B5.out
                           have z0 : wd.cell? ⟨w.heap.size + 1, 0, none⟩ = some (.int .i64 0) := ub.cell 0
                           have z1 : wd.cell? ⟨w.heap.size + 1, 1, none⟩ = some (.slice none 0 0) := ub.cell 1
                           have z2 : wd.cell? ⟨w.heap.size + 1, 2, none⟩ = some (.slice none 0 0) := ub.cell 2
                           have f0 := ub.frozen 0
                           have f1 := ub.frozen 1
                           have f2 := ub.frozen 2
                           have FE := Lib.hid (FINE.out 8 (te4 HO.out HN.out HA.out HT.out) (by decide) wd B5.out)
                           clear ub
                           go_wp2_with fail
                           refine bodyPost_ret (v := .tuple #[.agg #[.int .i64 0, .slice none 0 0, .slice none 0 0], .int .i64 8]) (by simp [results, Try.results29, go_sem, z0, z1, z2]) rfl ?_
                           exact FE.out)
                · obtain rfl : k = ms.length := by omega
                  generalize wr = wq at *
                  obtain ⟨sn, hsn⟩ : ∃ sn : Nat, s = sn := ⟨s.toNat, by omega⟩
                  subst hsn
                  have snn : sn < ns.length := by omega
                  have snl : (sn : Int) < (lv.length : Int) := by have := hll.out; omega
                  obtain ⟨b5, o5, ha5, hb5, hm5, e5⟩ := int_at ((KC.out wq B4.out).2.2.2.2.1) sn (by have := hll.out; omega)
                  have LB : Hid (lvB lv (sn : Int) = decide (0 ≤ lv.getD sn 0)) := by rw [Hid]; unfold lvB lvAt; rw [Int.toNat_natCast]
                  have LE : Hid (∀ m, m < ns.length → ∀ w', Below w1.heap.size w1 w' → w'.cell? ⟨b5, o5 + m, none⟩ = some (.int .i64 (lv.getD m 0))) := fun m hm w' hb => by
                    obtain ⟨b, o, ha, _, _, e⟩ := int_at ((KC.out w' hb).2.2.2.2.1) m (by have := hll.out; omega)
                    rw [ha5] at ha
                    injection ha with ha
                    injection ha with q1 q2
                    subst q1
                    subst q2
                    exact e
                  obtain ⟨xs, hxs⟩ : ∃ xs, lv.getD sn 0 = xs := ⟨_, rfl⟩
                  rw [hxs] at e5 LB
                  have HXS := Lib.hid hxs
                  subst ha5
                  clear hm5 hxs
                  by_cases hx0 : xs < 0
                  · have hln : lvB lv (sn : Int) = false := by rw [LB.out]; simp; omega
                    have HE12 : Hid (tErr ⟨ns, cs⟩ lv ms (sn : Int) = 12) := by
                      cases hal : ms.all (lvB lv) with
                      | false => exact te5 HO.out HN.out HA.out HTW.out hal
                      | true => exact te6 HO.out HN.out HA.out HTW.out hal hln
                    obtain ⟨_, ub, _⟩ := KC.out wq B4.out
                    have z0 : wq.cell? ⟨w.heap.size + 1, 0, none⟩ = some (.int .i64 0) := ub.cell 0
                    have z1 : wq.cell? ⟨w.heap.size + 1, 1, none⟩ = some (.slice none 0 0) := ub.cell 1
                    have z2 : wq.cell? ⟨w.heap.size + 1, 2, none⟩ = some (.slice none 0 0) := ub.cell 2
                    have f0 := ub.frozen 0
                    have f1 := ub.frozen 1
                    have f2 := ub.frozen 2
                    have FE := Lib.hid (FINE.out 12 (HE12.out) (by decide) wq B4.out)
                    clear ub
                    go_wp2_with fail
                    refine bodyPost_ret (v := .tuple #[.agg #[.int .i64 0, .slice none 0 0, .slice none 0 0], .int .i64 12]) (by simp [results, Try.results29, go_sem, z0, z1, z2]) rfl ?_
                    exact FE.out
                  · have HL : Hid (lvB lv (sn : Int) = true) := by rw [Hid, LB.out]; simp; omega
                    go_wp2_with fail
                    clear e5
                    go_loopw [13] (fun i wr => RelAl (lvB lv) ms wq i wr) (fun i _ => ms.length - (RowKit.intOf i).toNat)
                    case atStart => exact ⟨0, Nat.zero_le _, rfl, by simp, rfl⟩
                    case round =>
                      obtain ⟨k, hk, rfl, hall, rfl⟩ := hrel
                      have HLA := Lib.hid hall
                      clear hall
                      by_cases hkr : k < ms.length
                      · obtain ⟨b1, o1, ha1, hb1, hm1, e1⟩ := int_at ((KC.out wq B4.out).2.2.2.2.2) k hkr
                        have SN := Lib.hid (all_snocI (lvB lv) hkr)
                        have BD : Hid (lvB lv (ms.getD k 0) = false → ms.all (lvB lv) = false) := all_badI (lvB lv) hkr
                        have ND := List.all_eq_true.1 HA.out _ hm1
                        generalize ms.getD k 0 = x at *
                        have ndx : 0 ≤ x ∧ x < ns.length := by simpa [isNodeB] using ND
                        obtain ⟨xn, hxn⟩ : ∃ xn : Nat, x = xn := ⟨x.toNat, by omega⟩
                        subst hxn
                        have e6 := LE.out xn (by omega) wq B4.out
                        have LBx : Hid (lvB lv (xn : Int) = decide (0 ≤ lv.getD xn 0)) := by rw [Hid]; unfold lvB lvAt; rw [Int.toNat_natCast]
                        generalize lv.getD xn 0 = y at *
                        subst ha1
                        have ki : (k : Int) < (ms.length : Int) := by omega
                        have xl : (xn : Int) < (lv.length : Int) := by have := hll.out; omega
                        clear hm1 ND
                        by_cases hy : y < 0
                        · have hn : lvB lv (xn : Int) = false := by rw [LBx.out]; simp; omega
                          have HE12 : Hid (tErr ⟨ns, cs⟩ lv ms (sn : Int) = 12) := te5 HO.out HN.out HA.out HTW.out (BD.out hn)
                          obtain ⟨_, ub, _⟩ := KC.out wq B4.out
                          have z0 : wq.cell? ⟨w.heap.size + 1, 0, none⟩ = some (.int .i64 0) := ub.cell 0
                          have z1 : wq.cell? ⟨w.heap.size + 1, 1, none⟩ = some (.slice none 0 0) := ub.cell 1
                          have z2 : wq.cell? ⟨w.heap.size + 1, 2, none⟩ = some (.slice none 0 0) := ub.cell 2
                          have f0 := ub.frozen 0
                          have f1 := ub.frozen 1
                          have f2 := ub.frozen 2
                          have FE := Lib.hid (FINE.out 12 (HE12.out) (by decide) wq B4.out)
                          clear ub
                          go_wp2_with fail
                          refine bodyPost_ret (v := .tuple #[.agg #[.int .i64 0, .slice none 0 0, .slice none 0 0], .int .i64 12]) (by simp [results, Try.results29, go_sem, z0, z1, z2]) rfl ?_
                          exact FE.out
                        · have hn : lvB lv (xn : Int) = true := by rw [LBx.out]; simp; omega
                          have R : Hid (RelAl (lvB lv) ms wq (.int .i64 ((k + 1 : Nat) : Int)) wq) := ⟨k + 1, by omega, rfl, by rw [SN.out, HLA.out, hn]; rfl, rfl⟩
                          clear SN BD hn
                          go_wp2_with fail
                          exact ⟨by simpa using R.out, by simp [RowKit.intOf]; omega⟩
                      · obtain rfl : k = ms.length := by omega
                        rw [List.take_length] at HLA
                        have HE0 : Hid (tErr ⟨ns, cs⟩ lv ms (sn : Int) = 0) := te0 HO.out HN.out HA.out HTW.out HLA.out HL.out
                        obtain ⟨k', hk', mok⟩ := mok_of HE0.out
                        obtain rfl : sn = k' := by omega
                        have MO := Lib.hid mok
                        obtain ⟨n16, c32⟩ := valid_sizes HV.out
                        obtain ⟨j0, hj0, hy0, hy1, hy2⟩ := info_parts infoInts
                        obtain ⟨o7, ho7⟩ : ∃ o7, Obj.cells (madeCells #[.slice none 0 0] ns.length) 35 = o7 := ⟨_, rfl⟩
                        have HO7 := Lib.hid ho7
                        clear ho7 hk' mok
                        go_wp2_with (at_make; refine wpList_make_rec _ rfl _ _ 59 rfl 35 j0 _ 1 Try.underlying59 hj0 hy0 hy1 .i64 .i64 _ _ ns.length rfl rfl ?m1mk ?m2mk (by rw [hy2]; omega) (by unfold maxLen; omega) ?_)
                        case m1mk => rfl
                        case m2mk => rfl
                        rw [HO7.out]
                        obtain ⟨w5, hw5⟩ : ∃ w5 : World, (wq.alloc o7).alloc (.cells #[.int .i64 (sn : Int), .slice (some ⟨wq.heap.size, 0, none⟩) ns.length ns.length, .slice none 0 0] 64) = w5 := ⟨_, rfl⟩
                        have B5 : Hid (Below w1.heap.size w1 w5) := by rw [Hid, ← hw5]; exact (B4.out.alloc B4.out.size _).alloc (by have := B4.out.size; simp; omega) _
                        have bqs := B4.out.size
                        have ST : Hid (RelM1 ns cs lv ms sn wq.heap.size (wq.heap.size + 1) w1 (.int .i64 0) w5) := by
                          refine ⟨0, Nat.zero_le _, rfl, ⟨fun _ => .slice none 0 0, none, 0, ?_, ?_, IsRec.nil _, fun x hx => (by cases hx), fun u hu => ⟨none, 0, rfl, IsRec.nil _, fun x hx => (by cases hx)⟩⟩, B5.out⟩
                          · rw [← hw5]; have := Blk.new (wq.alloc o7) 64 #[.int .i64 (sn : Int), .slice (some ⟨wq.heap.size, 0, none⟩) ns.length ns.length, .slice none 0 0]; rw [World.size_alloc] at this; exact this
                          · rw [← hw5, ← HO7.out]; exact (RBlk.ofMade (Blk.new wq _ _)).alloc _
                        have HW5 := Lib.hid hw5
                        rw [hw5]
                        clear hw5 HO7 hj0 hy0 hy1 hy2
                        generalize hbO : wq.heap.size = bO at *
                        have hbt : Hid (w.heap.size + 1 < bO) := by rw [Hid]; omega
                        clear c32 bqs hbO
                        go_loopw [15] (fun i wr => RelM1 ns cs lv ms sn bO (bO + 1) w1 i wr) (fun i _ => ms.length - (RowKit.intOf i).toNat)
                        case atStart => exact ST.out
                        case round =>
                          clear ST
                          obtain ⟨j, hj, rfl, hm23, bel⟩ := hrel
                          have MM := Lib.hid hm23
                          have BE := Lib.hid bel
                          obtain ⟨⟨c0, c1⟩, _⟩ := KC.out wr bel
                          clear hm23 bel
                          by_cases hjr : j < ms.length
                          · obtain ⟨b1, o1, ha1, hb1, hm1, e1⟩ := int_at ((KC.out wr BE.out).2.2.2.2.2) j hjr
                            have ME : Hid (∀ w', Below w1.heap.size w1 w' → w'.cell? ⟨b1, o1 + j, none⟩ = some (.int .i64 (ms.getD j 0))) := fun w' hb => by
                              obtain ⟨b, o, ha, _, _, e⟩ := int_at ((KC.out w' hb).2.2.2.2.2) j hjr
                              rw [ha1] at ha
                              injection ha with ha
                              injection ha with q1 q2
                              subst q1
                              subst q2
                              exact e
                            obtain ⟨mn0, mn1, mn2⟩ := MO.out.node _ hm1
                            have DS : Hid (insL23 (ms.take (j + 1)) = insA (insL23 (ms.take j)) (ms.getD j 0)) := by rw [Hid, take_snocG 0 ms j hjr, insL23_snoc]
                            have PS : Hid (prs ns cs lv sn (ms.take (j + 1)) = prs ns cs lv sn (ms.take j) ++ wpairs cs lv (ns.length + ns.length + 1) sn (ms.getD j 0).toNat) := by rw [Hid, take_snocG 0 ms j hjr, prs_snoc]
                            have dlen : (insL23 (ms.take j)).length ≤ 100 := by have := insL23_len (ms.take j); rw [List.length_take] at this; omega
                            have dasc := Lib.hid (insL23_asc (ms.take j))
                            generalize ms.getD j 0 = x at *
                            obtain ⟨xn, hxn⟩ : ∃ xn : Nat, x = xn := ⟨x.toNat, by omega⟩
                            subst hxn
                            rw [Int.toNat_natCast] at PS mn2
                            have hxnn : xn < ns.length := by omega
                            generalize insL23 (ms.take j) = dl at *
                            obtain ⟨L0, hL0⟩ : ∃ L0, prs ns cs lv sn (ms.take j) = L0 := ⟨_, rfl⟩
                            rw [hL0] at PS MM
                            have HL0 := Lib.hid hL0
                            clear hL0
                            obtain ⟨aD, cD, ⟨t1, t2⟩, hdr, hdx, ltb, ltO, htk⟩ := MM.out.cells
                            have HTK := Lib.hid htk
                            have INS := Lib.hid (fun (w' : World) (hb : Below wr.heap.size wr w') => ins23_any dl (xn : Int) aD cD w' (by omega) dasc.out (hdr.below (Nat.le_refl _) hb))
                            have HDX := Lib.hid hdx
                            subst ha1
                            have ji : (j : Int) < (ms.length : Int) := by omega
                            clear hm1 htk hdr hdx
                            go_wp2_with fail
                            go_cut [] from 106 to 113 (fun wx => M23 ns.length sn bO (bO + 1) L0 (insA dl (xn : Int)) wx ∧ Below w1.heap.size w1 wx)
                            case first =>
                              go_region_with
                                (first
                                  | (go_at_call 64
                                     refine (INS.out _ ((Below.refl _ _).drew)).mono ?_
                                     rintro e ws ⟨a', c', rfl, hr', hx', bels⟩
                                     have HR := Lib.hid hr'
                                     have HX := Lib.hid hx'
                                     have BS : Hid (Below wr.heap.size wr ws) := (Below.refl _ _).drew.trans bels
                                     obtain ⟨u2, fu2⟩ := HTK.out ws BS.out
                                     clear hr' hx' bels))
                              all_goals
                                clear t1 t2 u2 fu2
                                go_wp2_with fail
                                go_meet
                                case rel =>
                                  refine ⟨(MM.out.below BS.out).setDel (by omega) HR.out (fun y hy => ?_), (BE.out.trans (BS.out.mono BE.out.size)).setCell (by have := hbt.out; dsimp only; omega) _⟩
                                  rcases HX.out y hy with q | q
                                  · exact HDX.out y q
                                  · have : wr.drew.heap.size = wr.heap.size := rfl
                                    omega
                            case rest =>
                              obtain ⟨hm2, hb2⟩ := hcut
                              have M2 := Lib.hid hm2
                              have BC := Lib.hid hb2
                              have LTC : bO + 1 < wc.heap.size := by obtain ⟨_, _, _, _, _, q, _⟩ := hm2.cells; exact q
                              obtain ⟨⟨d0, d1⟩, _⟩ := KC.out wc hb2
                              have e2 := ME.out wc hb2
                              have LOK := Lib.hid (MO.out.prs_ok (l := ms.take j) (fun m hm => List.mem_of_mem_take hm))
                              rw [HL0.out] at LOK
                              have PC : Hid (∀ (w' : World), Below w1.heap.size w1 w' → Calls Try.prog 65 #[.agg #[.slice An ns.length cn, .slice Ac cs.length cc], .slice (some ⟨b5, o5, none⟩) lv.length cl, .int .i64 (sn : Int), .int .i64 (xn : Int)] w' (IntsPost (pathP cs lv (ns.length + ns.length + 1) sn xn) w')) :=
                                fun (w' : World) (hb' : Below w1.heap.size w1 w') => path23_any ns cs lv sn xn An Ac (some ⟨b5, o5, none⟩) cn cc cl w' MO.out.T MO.out.hs hxnn MO.out.s0 mn2 (KC.out w' hb').2.2.2.1 (KC.out w' hb').2.2.2.2.1
                              have WOK := Lib.hid (wp_ok MO.out.T MO.out.hs hxnn MO.out.s0 mn2)
                              have WCH := Lib.hid (wpairs_chn MO.out.T (ns.length + ns.length + 1) sn xn MO.out.hs hxnn MO.out.s0 mn2 (by have := (MO.out.T.lt sn MO.out.hs).2; have := (MO.out.T.lt xn hxnn).2; push_cast; omega)).1
                              rw [← wpairs_snd] at PC
                              have WLN : (wpairs cs lv (ns.length + ns.length + 1) sn xn).length ≤ 32 := by
                                have h1 := (wpairs_chn MO.out.T (ns.length + ns.length + 1) sn xn MO.out.hs hxnn MO.out.s0 mn2 (by have := (MO.out.T.lt sn MO.out.hs).2; have := (MO.out.T.lt xn hxnn).2; push_cast; omega)).2
                                have := (MO.out.T.lt sn MO.out.hs).2
                                have := (MO.out.T.lt xn hxnn).2
                                omega
                              generalize wpairs cs lv (ns.length + ns.length + 1) sn xn = W at *
                              have KM : Hid (∀ w', Below w1.heap.size w1 w' → w'.cell? ⟨w.heap.size, 0, none⟩ = some (.slice An ns.length cn) ∧ w'.cell? ⟨w.heap.size, 1, none⟩ = some (.slice Ac cs.length cc) ∧ w'.cell? ⟨b1, o1 + j, none⟩ = some (.int .i64 (xn : Int))) := fun w' hb => ⟨(KC.out w' hb).1.1, (KC.out w' hb).1.2, ME.out w' hb⟩
                              have M0 := Lib.hid (MO.out.T)
                              clear hm2 hb2 e1 c0 c1 t1 t2 INS HDX HTK MM
                              go_wp2_with fail
                              go_region_held3 (fun w' => w'.cell? ⟨w.heap.size, 0, none⟩ = some (.slice An ns.length cn) ∧ w'.cell? ⟨w.heap.size, 1, none⟩ = some (.slice Ac cs.length cc) ∧ w'.cell? ⟨b1, o1 + j, none⟩ = some (.int .i64 (xn : Int)))
                                (first | exact ⟨d0, d1, e2⟩ | (refine KM.out _ ?_; repeat (first | exact BC.out | exact BS.out | refine Below.drew ?_)))
                                (first
                                  | (go_at_call 65
                                     refine (PC.out _ (by repeat (first | exact BC.out | refine Below.drew ?_))).mono ?_
                                     rintro e ws ⟨v, rfl, own, belp⟩
                                     obtain ⟨pa, pc, hv, _, prec, pfar⟩ := rec_of_own (d := (0 : Int)) cI_length (by decide) own
                                     subst hv
                                     have PR := Lib.hid prec
                                     have BP := Lib.hid belp
                                     have HPX : Hid (∀ x, pa = some x → bO + 1 < x.block) := fun x hx => by have h1 : wc.heap.size ≤ x.block := pfar x hx; exact Nat.lt_of_lt_of_le LTC h1
                                     have BS : Hid (Below w1.heap.size w1 ws) := BC.out.trans (((Below.refl _ _).drew.trans belp).mono BC.out.size)
                                     clear own belp prec pfar))
                              all_goals
                                rw [List.length_map] at PR
                                have M3 : Hid (M23 ns.length sn bO (bO + 1) L0 (insA dl (xn : Int)) ws) := M2.out.below ((Below.refl _ _).drew.trans BP.out)
                                go_wp2_with fail
                                go_loopw [16, 18] (fun uv i wr => RelM2 ns cs sn bO (bO + 1) xn L0 W (insA dl (xn : Int)) pa w1 uv i wr) (fun _ i _ => W.length - (RowKit.intOf i).toNat)
                                case atStart => exact ⟨0, sn, Nat.zero_le _, rfl, rfl, by simpa using WCH.out, by simpa using M3.out, PR.out, BS.out⟩
                                case round =>
                                  obtain ⟨k, u, hk, rfl, rfl, hch, hm3, hpr, hbe⟩ := hrel
                                  have M4 := Lib.hid hm3
                                  have PR4 := Lib.hid hpr
                                  have BQ := Lib.hid hbe
                                  obtain ⟨⟨d0, d1⟩, _⟩ := KC.out wr hbe
                                  clear hm3 hpr hbe
                                  by_cases hkr : k < W.length
                                  · obtain ⟨p, hp⟩ : ∃ p, W.getD k (0, 0) = p := ⟨_, rfl⟩
                                    have hpm : p ∈ W := by rw [← hp]; simp [List.getD, hkr]
                                    have hdr : W.drop k = p :: W.drop (k + 1) := by rw [← hp, List.drop_eq_getElem_cons hkr]; simp [List.getD, hkr]
                                    have htk : W.take (k + 1) = W.take k ++ [p] := by rw [← hp]; exact take_snocG _ W k hkr
                                    have hge : (W.map (·.2)).getD k 0 = p.2 := by rw [← hp]; simp [List.getD, hkr]
                                    rw [hdr] at hch
                                    obtain ⟨hu1, hch2⟩ := hch
                                    obtain ⟨i, hpi, hi, hun, htc, hvn⟩ := WOK.out p hpm
                                    obtain ⟨p1, p2⟩ := p
                                    simp only at hu1 hpi hun htc hvn hge hch2
                                    subst hu1
                                    subst hpi
                                    rw [Int.toNat_natCast] at hch2
                                    have hov : otherV (cs.getD i cb0) (u : Int) = (othN cs u i : Int) := other_touch HV.out (by simp [List.getD, hi]) htc
                                    obtain ⟨bp, op, hap, hbp, _, ep⟩ := int_at PR4.out k (by omega)
                                    rw [hge] at ep
                                    have EP : Hid (∀ w', Below wr.heap.size wr w' → w'.cell? ⟨bp, op + k, none⟩ = some (.int .i64 (i : Int))) := fun w' hb => (hb.cell (by exact hbp)).trans ep
                                    obtain ⟨ar, cap, cr, recr, hxr, hkeep⟩ := M4.out.rowAt hun
                                    obtain ⟨aD', cD', ⟨t1, t2⟩, _, _, ltb', ltO', _⟩ := M4.out.cells
                                    have T1 : Hid (∀ w', Below wr.heap.size wr w' → w'.cell? ⟨bO + 1, 1, none⟩ = some (.slice (some ⟨bO, 0, none⟩) ns.length ns.length)) := fun w' hb => (hb.cell (by exact ltb')).trans t1
                                    have rl : (row23 (L0 ++ W.take k) u).length ≤ cs.length := row_len (fun q hq => by
                                      rcases List.mem_append.1 hq with hq | hq
                                      · exact LOK.out q hq
                                      · obtain ⟨z, z1, z2, _⟩ := WOK.out q (List.mem_of_mem_take hq); exact ⟨z, z1, z2⟩)
                                    have ras := insL23_asc (outAt (L0 ++ W.take k) u)
                                    have INS2 : Hid (∀ w', Below wr.heap.size wr w' → Calls Try.prog 64 #[.slice ar (row23 (L0 ++ W.take k) u).length cap, .int .i64 (i : Int)] w' fun e w'' => ∃ a' c', e = .returned (.slice a' (insA (row23 (L0 ++ W.take k) u) (i : Int)).length c') ∧ IsRec 1 cI 0 w'' a' (insA (row23 (L0 ++ W.take k) u) (i : Int)).length (insA (row23 (L0 ++ W.take k) u) (i : Int)) ∧ (∀ x, a' = some x → ar = some x ∨ w'.heap.size ≤ x.block) ∧ Below w'.heap.size w' w'') := fun w' hb =>
                                      ins23_any (row23 (L0 ++ W.take k) u) (i : Int) ar cap w' (by omega) ras (recr.below (Nat.le_refl _) hb)
                                    have SR : Hid (∀ (ws : World) (a' : Option Addr) (c' : Nat), M23 ns.length sn bO (bO + 1) (L0 ++ W.take k) (insA dl (xn : Int)) ws → IsRec 1 cI 0 ws a' (insA (row23 (L0 ++ W.take k) u) (i : Int)).length (insA (row23 (L0 ++ W.take k) u) (i : Int)) → (∀ x, a' = some x → bO + 1 < x.block) → M23 ns.length sn bO (bO + 1) (L0 ++ W.take (k + 1)) (insA dl (xn : Int)) (ws.setCell ⟨bO, u, none⟩ (.slice a' (insA (row23 (L0 ++ W.take k) u) (i : Int)).length c'))) := fun ws a' c' hm hr hx => by
                                      rw [htk, ← List.append_assoc]
                                      exact hm.setRow (by omega) hun hr hx
                                    have HXR := Lib.hid hxr
                                    have HKP := Lib.hid hkeep
                                    have CH2 := Lib.hid hch2
                                    have OC3 : Hid (∀ w', Below w1.heap.size w1 w' → Calls Try.prog 66 #[.agg #[.slice An ns.length cn, .slice Ac cs.length cc], .int .i64 (i : Int), .int .i64 (u : Int)] w' fun e w'' => e = .returned (.int .i64 (othN cs u i : Int)) ∧ Below w'.heap.size w' w'') := fun w' hb => by
                                      have := Other17_any cs An Ac ns.length cn cc i (u : Int) w' (by omega) ((KC.out w' hb).2.2.2.1).2 hi
                                      rw [hov] at this
                                      exact this
                                    generalize row23 (L0 ++ W.take k) u = rw0 at *
                                    generalize othN cs u i = u2 at *
                                    have ki : (k : Int) < (W.length : Int) := by omega
                                    have ui : (u : Int) < (ns.length : Int) := by omega
                                    have HGE := Lib.hid hge
                                    subst hap
                                    clear hp hpm hdr htk hge hov hch2 hkeep hxr recr t2 htc M3
                                    have KP2 : Hid (∀ w', Below w1.heap.size w1 w' → w'.cell? ⟨w.heap.size, 0, none⟩ = some (.slice An ns.length cn) ∧ w'.cell? ⟨w.heap.size, 1, none⟩ = some (.slice Ac cs.length cc)) := fun w' hb => (KC.out w' hb).1
                                    go_wp2_with fail
                                    go_cut [] from 129 to 142 (fun wx => M23 ns.length sn bO (bO + 1) (L0 ++ W.take (k + 1)) (insA dl (xn : Int)) wx ∧ IsRec 1 cI 0 wx (some ⟨bp, op, none⟩) W.length (W.map (·.2)) ∧ Below w1.heap.size w1 wx)
                                    case first =>
                                      clear d0 d1
                                      go_region_with
                                        (first
                                          | (go_at_call 64
                                             refine (INS2.out _ ((Below.refl _ _).drew)).mono ?_
                                             rintro e ws2 ⟨a', c', rfl, hr', hx', bels⟩
                                             have HR := Lib.hid hr'
                                             have HX := Lib.hid hx'
                                             have BS2 : Hid (Below wr.heap.size wr ws2) := (Below.refl _ _).drew.trans bels
                                             obtain ⟨u2c, fu2⟩ := HKP.out ws2 BS2.out
                                             have t1s := T1.out ws2 BS2.out
                                             have eps := EP.out ws2 BS2.out
                                             clear hr' hx' bels))
                                      all_goals
                                        clear t1 cr ep u2c fu2 t1s eps
                                        go_wp2_with fail
                                        go_meet
                                        case rel =>
                                          have z2 := BS2.out.size
                                          refine ⟨SR.out _ _ _ (M4.out.below BS2.out) HR.out (fun y hy => ?_), (PR4.out.below (Nat.le_refl _) BS2.out).farT (p := ⟨bO, u, none⟩) (fun x hx => ?_) _, (BQ.out.trans (BS2.out.mono BQ.out.size)).setCell (by have := hbt.out; dsimp only; omega) _⟩
                                          · rcases HX.out y hy with q | q
                                            · exact HXR.out y q
                                            · have e1 : wr.drew.heap.size = wr.heap.size := rfl
                                              omega
                                          · injection hx with hx
                                            subst hx
                                            have := HPX.out _ rfl
                                            dsimp only at this ⊢
                                            omega
                                    case rest =>
                                      obtain ⟨hm5, hp5, hb5'⟩ := hcut
                                      have M5 := Lib.hid hm5
                                      have P5 := Lib.hid hp5
                                      have B5' := Lib.hid hb5'
                                      obtain ⟨⟨d0, d1⟩, _⟩ := KC.out wc hb5'
                                      obtain ⟨bp2, op2, hap2, hbp2, _, ep2⟩ := int_at hp5 k (by omega)
                                      injection hap2 with hap2
                                      injection hap2 with qa qb
                                      subst qa
                                      subst qb
                                      rw [HGE.out] at ep2
                                      have EP2 : Hid (∀ w', Below wc.heap.size wc w' → w'.cell? ⟨bp, op + k, none⟩ = some (.int .i64 (i : Int))) := fun w' hb => (hb.cell (by exact hbp2)).trans ep2
                                      have KPc : Hid (∀ w', Below wc.heap.size wc w' → w'.cell? ⟨w.heap.size, 0, none⟩ = some (.slice An ns.length cn) ∧ w'.cell? ⟨w.heap.size, 1, none⟩ = some (.slice Ac cs.length cc) ∧ w'.cell? ⟨bp, op + k, none⟩ = some (.int .i64 (i : Int))) := fun w' hb => ⟨(KP2.out w' (B5'.out.trans (hb.mono B5'.out.size))).1, (KP2.out w' (B5'.out.trans (hb.mono B5'.out.size))).2, EP2.out w' hb⟩
                                      have OC5 := Lib.hid (OC3.out wc.drew B5'.out.drew)
                                      clear hm5 hp5 hb5' hbp2 INS2 SR HKP t1 cr ep
                                      go_wp2_with fail
                                      go_region_held3 (fun w' => w'.cell? ⟨w.heap.size, 0, none⟩ = some (.slice An ns.length cn) ∧ w'.cell? ⟨w.heap.size, 1, none⟩ = some (.slice Ac cs.length cc) ∧ w'.cell? ⟨bp, op + k, none⟩ = some (.int .i64 (i : Int)))
                                        (first | exact ⟨d0, d1, ep2⟩ | (refine KPc.out _ ?_; repeat (first | exact Below.refl _ _ | exact BS6.out | refine Below.drew ?_)))
                                        (first
                                          | (go_at_call 66
                                             refine (OC5.out).mono ?_
                                             rintro e ws6 ⟨rfl, bels6⟩
                                             have BS6 : Hid (Below wc.heap.size wc ws6) := (Below.refl _ _).drew.trans bels6
                                             clear bels6))
                                      all_goals
                                        have R : Hid (RelM2 ns cs sn bO (bO + 1) xn L0 W (insA dl (xn : Int)) (some ⟨bp, op, none⟩) w1 (.int .i64 (u2 : Int)) (.int .i64 ((k + 1 : Nat) : Int)) ws6) :=
                                          ⟨k + 1, u2, by omega, rfl, rfl, CH2.out, M5.out.below BS6.out, P5.out.below (Nat.le_refl _) BS6.out, B5'.out.trans (BS6.out.mono B5'.out.size)⟩
                                        clear d0 d1 ep2
                                        go_wp2_with fail
                                        exact ⟨by simpa using R.out, by simp [RowKit.intOf]; omega⟩
                                  · obtain rfl : k = W.length := by omega
                                    have R : Hid (RelM1 ns cs lv ms sn bO (bO + 1) w1 (.int .i64 ((j + 1 : Nat) : Int)) wr) := ⟨j + 1, by omega, rfl, by
                                      rw [DS.out, PS.out]
                                      have := M4.out
                                      rwa [List.take_length] at this, BQ.out⟩
                                    clear d0 d1
                                    go_wp2_with fail
                                    exact ⟨by simpa using R.out, by simp [RowKit.intOf]; omega⟩
                          · obtain rfl : j = ms.length := by omega
                            have m5 := MM.out
                            rw [List.take_length] at m5
                            obtain ⟨aD2, cD2, ⟨z0, z1, z2⟩, ht⟩ := m5.tree MO.out (show w.heap.size + 1 < bO by have := hbt.out; omega)
                            obtain ⟨_, ub, bww, _⟩ := KC.out wr BE.out
                            have y0 : wr.cell? ⟨w.heap.size + 1, 0, none⟩ = some (.int .i64 0) := ub.cell 0
                            have y1 : wr.cell? ⟨w.heap.size + 1, 1, none⟩ = some (.slice none 0 0) := ub.cell 1
                            have y2 : wr.cell? ⟨w.heap.size + 1, 2, none⟩ = some (.slice none 0 0) := ub.cell 2
                            have f0 := ub.frozen 0
                            have f1 := ub.frozen 1
                            have f2 := ub.frozen 2
                            have hml : (mkT ns cs lv ms sn).out.length = ns.length := by unfold mkT; simp
                            have FE : Hid (MkP23 ns cs lv ms (sn : Int) w (.returned (.tuple #[.agg #[.int .i64 (sn : Int), .slice (some ⟨bO, 0, none⟩) ns.length ns.length, .slice aD2 (delM ms).length cD2], .int .i64 0])) (((wr.setCell ⟨w.heap.size + 1, 0, none⟩ (.int .i64 (sn : Int))).setCell ⟨w.heap.size + 1, 1, none⟩ (.slice (some ⟨bO, 0, none⟩) ns.length ns.length)).setCell ⟨w.heap.size + 1, 2, none⟩ (.slice aD2 (delM ms).length cD2))) :=
                              ⟨below_setS (below_setS (below_setS bww (by dsimp only; omega)) (by dsimp only; omega)) (by dsimp only; omega), .inr ⟨HE0.out, sn, rfl, MO.out, some ⟨bO, 0, none⟩, aD2, ns.length, cD2, by unfold trV; rw [hml]; rfl, ht _ _ _⟩⟩
                            clear c0 c1 ub bww m5 ht hml
                            generalize delM ms = dm at *
                            go_wp2_with fail
                            refine bodyPost_ret (v := .tuple #[.agg #[.int .i64 (sn : Int), .slice (some ⟨bO, 0, none⟩) ns.length ns.length, .slice aD2 dm.length cD2], .int .i64 0]) (by simp [results, Try.results29, go_sem, z0, z1, z2, y0, y1, y2]) rfl ?_
                            exact FE.out
end Go.Proofs.Ytljojgpjgjfddaa
