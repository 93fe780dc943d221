/- Agree at a row that the call itself has made; a row of one part; the row of Split after one rank is changed. -/
import Derived.Test.YtjhbjifhponciaaLRow
namespace Go.Proofs.Ytjhbjifhponciaa
open Go.RowKit Go.Maps
set_option linter.unusedVariables false

theorem agree_row (p : Pl) (An Ac : Option Addr) (cn cc base n : Nat) (v : Value) (L : List Q3) (er : Int) (w : World) (hl : p.ns.length ≤ 1000000) (hl2 : p.cs.length ≤ 1000000) (hwf : WfP p) (hn : n ≤ 1000000) (hsm : smallMaps (ptsQ L)) (h : IsPlan w An Ac p)
    (ho : w.ownsRow base 41 3 v n (L.flatMap cQ)) (hk : OkQ w L) (he : agreeErr p (ptsQ L) = er) :
    Calls Try.prog 19 #[.agg #[.slice An p.ns.length cn, .slice Ac p.cs.length cc], v] w fun en w' => en = .returned (.int .i64 er) ∧ Below w.heap.size w w' := by
  obtain ⟨a, cap, rfl, hp, hL⟩ := parts_of_own ho hk
  have e : (ptsQ L).length = n := by rw [ptsQ_length, hL]
  subst he
  have := agree_any p An Ac a cn cc cap (ptsQ L) w hl hl2 hwf (by omega) hsm h (by rw [e]; exact hp)
  rw [e] at this
  exact this
section
variable {P : Program} {w : World}
/-- append in a drawn region, behind a guard that lets it run. -/
theorem step_append_on {ops : Array Oper} {o : Oper} {a : Act} {K : Act → World → Prop} {Q : Exit → Act → World → Prop} {E : Prop} (hw : Region.wanted o (yielded ops a.tmps) = true) (s x : Operand) (t : TypeId)
    (ho : o.op = .call { callee := .builtin .append, args := #[s, x], argTypes := #[t, t] })
    (base : Nat) (e : TypeId) (i : TypeInfo) (z : Value) (size bytes : Nat) (ht : P.underlying t = some (.slice e)) (hi : P.info? e = some i) (hz : i.zero = some z)
    (hsize : i.size = size) (hby : i.bytes = bytes) (hzs : z.cells.size = size) (hsz : 0 < size)
    (v : Value) (n : Nat) (xs : List Value) (hs : a.eval s = v) (hown : w.ownsRow base e size v n xs)
    (B : Nat) (A : Option Addr) (m c : Nat) (news : List Value) (hx : a.eval x = .slice A m c) (hr : Reads w B size A m news) (h1 : ∀ u ∈ news, u.oneCell' = true)
    (h63 : n + m ≤ maxLen) (hbytes : (n + m) * bytes ≤ 140737488355328) (hbase : base ≤ w.heap.size)
    (h : ∀ v' w', w'.ownsRow base e size v' (n + m) (xs ++ news) → w.grownBy w' v.ownBlock → (v'.ownBlock = v.ownBlock ∨ v'.ownBlock = some w.heap.size) → K (a.put o.dst v') w') :
    if Region.wanted o (yielded ops a.tmps) = true then Oper.wp P o a w K Q else E := by
  rw [if_pos hw]
  exact wp_append_any w s x t ho base e i z size bytes ht hi hz hsize hby hzs hsz v n xs hs hown B A m c news hx hr h1 h63 hbytes hbase h
end
/-- A new row of one part. -/
theorem reads_one (w : World) (t : TypeId) (q : Q3) : Reads (w.alloc (.cells #[q.1.1, q.1.2.1, q.1.2.2] t)) (w.alloc (.cells #[q.1.1, q.1.2.1, q.1.2.2] t)).heap.size 3 (some ⟨w.heap.size, 0, none⟩) 1 (cQ q) := by
  refine ⟨rfl, fun _ => ⟨_, rfl, by simp, fun j u hu => ?_⟩⟩
  have e : (⟨w.heap.size, 0, none⟩ : Addr).add j = ⟨w.heap.size, 0 + j, none⟩ := by unfold Addr.add; split <;> simp_all
  rw [e, Nat.zero_add, (Blk.new w t #[q.1.1, q.1.2.1, q.1.2.2]).cell j, ← hu]
  simp [cQ]
theorem IsPart.grown {w w' : World} {g : Nat} {E0 : Ens} {cs : List Value} {x : Pt} (h : IsPart w cs x) (hm : IM w g E0) (hg : w.grownBy w' (some g)) (hne : cs[2]? ≠ some (.map (some g))) : IsPart w' cs x := by
  obtain ⟨a, cap, m, e, h1, h2⟩ := h
  refine ⟨a, cap, m, e, ?_, ?_⟩
  · by_cases h0 : 0 < x.deps.length
    · refine h1.grown hg fun y hy => ?_
      obtain ⟨b, off, ha, hb, hc⟩ := h1.2 h0
      rw [hy] at ha
      injection ha with ha
      subst ha
      have hcell := hc 0 0 h0 (by omega)
      intro hbg
      injection hbg with hbg
      have := hm.noCell (off + 0 * 3 + 0)
      simp only at hbg
      rw [← hbg, hcell] at this
      simp [cD] at this
    · exact ⟨h1.1, fun h => absurd h h0⟩
  · rcases h2 with h2 | ⟨b, rfl, h2⟩
    · exact .inl h2
    · refine .inr ⟨b, rfl, h2.kept hg fun e2 => hne ?_⟩
      rw [e, ← e2]; rfl
section
variable {p : Pl} {ds : List Dp} {r : List Int} {w w' w1 w2 : World} {g : Nat} {dv : Nat → Value} {mb : Nat → Nat}
theorem SplitOk.changed (h : SplitOk p ds r w w' g dv mb) (hb : Below w'.heap.size w' w1) {k : Nat} (hk : k < p.ns.length) (hg : w1.grownBy w2 (some (mb k))) {x v : Int} (hm : IM w2 (mb k) (putE (ranksOf p.cs r k) x v)) :
    IsParts w2 (some ⟨g, 0, none⟩) p.ns.length (chgL p ds r k x v) := by
  refine ⟨chgL_length p ds r k x v, fun h0 => ⟨g, 0, rfl, ?_, fun i hi => ?_⟩⟩
  · have := h.row.lt; have := hb.size; have := hg.size; omega
  have hrow := (h.row.below hb h.row.lt).grown hg (by intro e; injection e with e; have := h.later k hk; omega)
  refine ⟨[.int .i64 i, dv i, .map (some (mb i))], ?_, fun j hj => by rw [Nat.zero_add, hrow.cell hi hj]⟩
  rw [chgL_get p ds r hk x v hi]
  have hq : IsPart w1 [.int .i64 i, dv i, .map (some (mb i))] (splitPt p ds r i) := (h.okQ _ (List.mem_map.2 ⟨i, List.mem_range.2 hi, rfl⟩)).below (Nat.le_refl _) hb
  have hm1 : IM w1 (mb k) (ranksOf p.cs r k) := (h.maps k hk).below hb (h.maps k hk).lt
  by_cases e : i = k
  · subst e
    rw [if_pos rfl]
    obtain ⟨a, cap, m, e1, h1, h2⟩ := hq
    refine ⟨a, cap, some (mb i), ?_, ?_, .inr ⟨_, rfl, hm⟩⟩
    · simp only [List.cons.injEq, Value.map.injEq, and_true] at e1
      obtain ⟨_, e2, e3⟩ := e1
      rw [e2]; rfl
    · have hq2 : IsPart w2 [.int .i64 i, .slice a (ownDeps ds i).length cap, .map none] ⟨i, ownDeps ds i, []⟩ := IsPart.grown (g := mb i) ⟨a, cap, none, rfl, h1, .inl ⟨rfl, rfl⟩⟩ hm1 hg (by simp)
      obtain ⟨a', cap', m', e4, h4, _⟩ := hq2
      simp only [List.cons.injEq, Value.slice.injEq, and_true] at e4
      obtain ⟨_, ⟨rfl, _, _⟩, _⟩ := e4
      exact h4
  · rw [if_neg e]
    refine hq.grown hm1 hg ?_
    intro e1
    simp only [List.getElem?_cons_succ, List.getElem?_cons_zero, Option.some.injEq, Value.map.injEq] at e1
    exact e (h.inj i k hi hk e1)
theorem small_chg {k : Nat} (hk : k < p.ns.length) {x v : Int} (hx : x ∈ chansAt p.cs k) (h : p.cs.length ≤ 100000) : smallMaps (chgL p ds r k x v) := by
  intro y hy
  unfold chgL at hy
  rcases List.mem_or_eq_of_mem_set hy with hy | rfl
  · exact small_split p ds r h y hy
  · show (putE _ _ _).length ≤ _
    have hs := small_split p ds r h (splitPt p ds r k) (List.mem_map.2 ⟨k, List.mem_range.2 hk, rfl⟩)
    have hs' : (ranksOf p.cs r k).length ≤ 1000000 := hs
    have hn : (keysE (ranksOf p.cs r k)).Nodup := by rw [keysE_ranksOf]; exact (chTo_sorted p.cs k p.cs.length).imp fun {a b} h e => by omega
    rw [putE_length hn, if_pos (lookE_some.2 (by rw [keysE_ranksOf]; exact hx))]
    exact hs'
end
end Go.Proofs.Ytjhbjifhponciaa
