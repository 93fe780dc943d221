/- The contracts of graph.validName, validNode and hasPort. -/
import Derived.Test.YtljojgpjgjfddaaProg
import Derived.Test.YtljojgpjgjfddaaPlan
import Derived.WalkKit
import Derived.WalkLawsBesides
import Derived.RegionTactic
import Derived.Outline
import Derived.Lib.Hide
import Derived.KernelRfl
namespace Go.Proofs.Ytljojgpjgjfddaa
open Go.RowKit
set_option linter.unusedVariables false

/-- The bytes of a name before place k are alright. -/
def okTo (s : ByteArray) (k : Nat) : Bool := (List.range k).all fun i => okByte i (s.data.getD i 0)
theorem okTo_succ (s : ByteArray) (k : Nat) : okTo s (k + 1) = (okTo s k && okByte k (s.data.getD k 0)) := by
  unfold okTo; rw [List.range_succ, List.all_append]; simp
theorem okTo_mono (s : ByteArray) (k : Nat) (h : okTo s k = false) : ∀ n, k ≤ n → okTo s n = false := by
  intro n hn
  induction n with
  | zero => have : k = 0 := by omega
            subst this; exact h
  | succ n ih =>
    rw [okTo_succ]
    by_cases hk : k = n + 1
    · subst hk; rw [okTo_succ] at h; exact h
    · rw [ih (by omega)]; rfl
theorem okByte_iff (k : Nat) (c : UInt8) : okByte k c = decide ((97 ≤ (c.toNat : Int) ∧ (c.toNat : Int) ≤ 122) ∨ (k ≠ 0 ∧ 48 ≤ (c.toNat : Int) ∧ (c.toNat : Int) ≤ 57)) := by
  rw [Bool.eq_iff_iff]
  simp only [okByte, isLetter, isDigit, Bool.or_eq_true, Bool.and_eq_true, decide_eq_true_eq, UInt8.le_iff_toNat_le]
  have e1 : (97 : UInt8).toNat = 97 := rfl
  have e2 : (122 : UInt8).toNat = 122 := rfl
  have e3 : (48 : UInt8).toNat = 48 := rfl
  have e4 : (57 : UInt8).toNat = 57 := rfl
  rw [e1, e2, e3, e4]
  omega
theorem byte_at (s : ByteArray) (k : Nat) (h : k < s.size) : s.data.getD k 0 = s[k] := by
  have h2 : k < s.data.size := h
  unfold Array.getD
  rw [dif_pos h2]; rfl

set_option maxHeartbeats 1000000 in
theorem name_any (s : ByteArray) (w : World) :
    Calls Try.prog 122 #[.string s] w fun e w' => e = .returned (.bool (okName s)) ∧ w = w' := by
  by_cases h1 : s.size < 1
  · have hf : okName s = false := by simp [okName]; omega
    have HF := Lib.hid hf
    clear hf
    go_enter Try.func122, Try.ntmps122
    go_wp2
    go_ret
    exact ⟨by rw [HF.out]; rfl, rfl⟩
  by_cases h2 : 20 < s.size
  · have hf : okName s = false := by simp [okName]; omega
    have HF := Lib.hid hf
    clear hf
    go_enter Try.func122, Try.ntmps122
    go_wp2
    go_ret
    exact ⟨by rw [HF.out]; rfl, rfl⟩
  have hs : okName s = okTo s s.size := by
    unfold okName okTo
    rw [decide_eq_true (by omega : 1 ≤ s.size), decide_eq_true (by omega : s.size ≤ 20)]; rfl
  have HS := Lib.hid hs
  clear hs
  go_enter Try.func122, Try.ntmps122
  go_wp2
  go_loop [16] (fun i => ∃ k : Nat, k ≤ s.size ∧ i = .int .i64 k ∧ okTo s k = true) (fun i => s.size - (intOf i).toNat)
  case atStart => exact ⟨0, Nat.zero_le _, rfl, rfl⟩
  case round =>
    obtain ⟨k, hk, rfl, hok⟩ := hrel
    have HOK := Lib.hid hok
    clear hok
    by_cases hlt : k < s.size
    · have OS : Hid (okTo s (k + 1) = okByte k s[k]) := by rw [Hid, okTo_succ, HOK.out, byte_at s k hlt]; rfl
      have OB := Lib.hid (okByte_iff k s[k])
      by_cases hl : 97 ≤ (s[k].toNat : Int) ∧ (s[k].toNat : Int) ≤ 122
      · have fin : Hid (okTo s (k + 1) = true) := by rw [Hid, OS.out, OB.out, decide_eq_true (.inl hl)]
        clear OS OB HOK
        obtain ⟨l1, l2⟩ := hl
        go_wp2
        all_goals
          go_round
          case rel => exact ⟨k + 1, by omega, by go_num, fin.out⟩
          case measure => simp [intOf]; omega
      · by_cases hd : k ≠ 0 ∧ 48 ≤ (s[k].toNat : Int) ∧ (s[k].toNat : Int) ≤ 57
        · have fin : Hid (okTo s (k + 1) = true) := by rw [Hid, OS.out, OB.out, decide_eq_true (.inr hd)]
          clear OS OB HOK
          obtain ⟨d0, d1, d2⟩ := hd
          have hk0 : ((k : Int) == 0) = false := by rw [beq_eq_false_iff_ne]; omega
          have l1 : (s[k].toNat : Int) < 97 := by omega
          clear hl d0
          go_wp2
          all_goals
            go_round
            case rel => exact ⟨k + 1, by omega, by go_num, fin.out⟩
            case measure => simp [intOf]; omega
        · have fin : Hid (okName s = false) := by
            rw [Hid, HS.out]
            refine okTo_mono s (k + 1) ?_ _ (by omega)
            rw [OS.out, OB.out, decide_eq_false (by omega)]
          clear OS OB HOK HS
          by_cases hk0 : k = 0
          · have q0 : ((k : Int) == 0) = true := by rw [hk0]; rfl
            rcases (by omega : (s[k].toNat : Int) < 97 ∨ (97 ≤ (s[k].toNat : Int) ∧ 122 < (s[k].toNat : Int))) with l1 | ⟨l1, l2⟩ <;> clear hl hd hk0
            all_goals
              try (have b2 : decide ((s[k].toNat : Int) ≤ 122) = false := decide_eq_false (by omega))
              go_wp2
              all_goals
                go_ret
                exact ⟨by rw [fin.out]; rfl, rfl⟩
          · have q0 : ((k : Int) == 0) = false := by rw [beq_eq_false_iff_ne]; omega
            rcases (by omega : ((s[k].toNat : Int) < 97 ∧ (s[k].toNat : Int) < 48) ∨ ((s[k].toNat : Int) < 97 ∧ 48 ≤ (s[k].toNat : Int) ∧ 57 < (s[k].toNat : Int)) ∨ (97 ≤ (s[k].toNat : Int) ∧ 122 < (s[k].toNat : Int))) with ⟨l1, l2⟩ | ⟨l1, l2, l3⟩ | ⟨l1, l2⟩ <;> clear hl hd hk0
            all_goals
              try (have b2 : decide ((s[k].toNat : Int) ≤ 122) = false := decide_eq_false (by omega))
              try (have b3 : decide ((s[k].toNat : Int) ≤ 57) = false := decide_eq_false (by omega))
              go_wp2
              all_goals
                go_ret
                exact ⟨by rw [fin.out]; rfl, rfl⟩
    · have e : k = s.size := by omega
      have fin : Hid (okName s = true) := by rw [Hid, HS.out, ← e, HOK.out]
      clear e HOK HS
      go_wp2
      go_ret
      exact ⟨by rw [fin.out]; rfl, rfl⟩

theorem node_any (x : Nd) (w : World) :
    Calls Try.prog 78 #[.agg #[.string x.name, .bool x.sw, .int .i64 x.ports]] w fun e w' => e = .returned (.bool (okNode x)) ∧ w.alloc (.cells #[.string x.name, .bool x.sw, .int .i64 x.ports] 105) = w' := by
  obtain ⟨nm, sw, po⟩ := x
  simp only
  cases hn : okName nm with
  | false =>
    have hf : Hid (okNode ⟨nm, sw, po⟩ = false) := by simp [Hid, okNode, hn]
    have HN := Lib.hid hn
    clear hn
    go_enter Try.func78, Try.ntmps78
    go_wp2_with (go_at_call 122; refine (name_any _ _).mono ?_; rintro r w' ⟨rfl, rfl⟩; rw [HN.out])
    go_ret
    exact ⟨by rw [hf.out]; rfl, rfl⟩
  | true =>
    cases sw with
    | true =>
      have hf : Hid (okNode ⟨nm, true, po⟩ = (decide (1 ≤ po) && decide (po ≤ 8))) := by simp [Hid, okNode, hn]
      have HN := Lib.hid hn
      clear hn
      by_cases h1 : 1 ≤ po
      · go_enter Try.func78, Try.ntmps78
        go_wp2_with (go_at_call 122; refine (name_any _ _).mono ?_; rintro r w' ⟨rfl, rfl⟩; rw [HN.out])
        go_ret
        refine ⟨?_, rfl⟩
        rw [hf.out, decide_eq_true h1]
        first | rfl | (simp; done)
      · go_enter Try.func78, Try.ntmps78
        go_wp2_with (go_at_call 122; refine (name_any _ _).mono ?_; rintro r w' ⟨rfl, rfl⟩; rw [HN.out])
        go_ret
        refine ⟨?_, rfl⟩
        rw [hf.out, decide_eq_false (by omega)]
        first | rfl | (simp; done)
    | false =>
      have hf : Hid (okNode ⟨nm, false, po⟩ = (po == 1)) := by
        show _ = _
        simp only [okNode, hn]
        by_cases h : po = 1 <;> simp [h]
      have HN := Lib.hid hn
      clear hn
      go_enter Try.func78, Try.ntmps78
      go_wp2_with (go_at_call 122; refine (name_any _ _).mono ?_; rintro r w' ⟨rfl, rfl⟩; rw [HN.out])
      go_ret
      refine ⟨?_, rfl⟩
      rw [hf.out]
      first | rfl | (simp; done)

theorem port_any (p : Pl) (An Ac : Option Addr) (cn cc : Nat) (node port : Int) (w : World) (hl : p.ns.length ≤ 1000000) (h : IsPlan w An Ac p) :
    Calls Try.prog 79 #[.agg #[.slice An p.ns.length cn, .slice Ac p.cs.length cc], .int .i64 node, .int .i64 port] w fun e w' =>
      e = .returned (.bool (hasPort p.ns node port)) ∧ w.alloc (.cells #[.slice An p.ns.length cn, .slice Ac p.cs.length cc] 25) = w' := by
  have H := Lib.hid (h.alloc (.cells #[.slice An p.ns.length cn, .slice Ac p.cs.length cc] 25)).1
  clear h
  by_cases h1 : 0 ≤ node
  · by_cases h2 : node < p.ns.length
    · by_cases h3 : 0 ≤ port
      · have hf : Hid (hasPort p.ns node port = decide (port < (p.ns.getD node.toNat nd0).ports)) := by simp [Hid, hasPort, h1, h2, h3]
        obtain ⟨k, rfl⟩ : ∃ k : Nat, node = k := ⟨node.toNat, by omega⟩
        obtain ⟨b, off, ha, hb, hm, c0, c1, c2⟩ := node_at H.out k (by omega)
        rw [Int.toNat_natCast] at hf
        generalize p.ns.getD k nd0 = x at *
        generalize hq : p.ns.length = ln at *
        clear hq
        subst ha
        go_enter Try.func79, Try.ntmps79
        go_wp2
        go_ret
        refine ⟨?_, rfl⟩
        rw [hf.out]
        rfl
      · have hf : Hid (hasPort p.ns node port = false) := by simp [Hid, hasPort, h1, h2, h3]
        go_enter Try.func79, Try.ntmps79
        go_wp2
        go_ret
        exact ⟨by rw [hf.out]; rfl, rfl⟩
    · have hf : Hid (hasPort p.ns node port = false) := by simp [Hid, hasPort, h1, h2]
      go_enter Try.func79, Try.ntmps79
      go_wp2
      go_ret
      exact ⟨by rw [hf.out]; rfl, rfl⟩
  · have hf : Hid (hasPort p.ns node port = false) := by simp [Hid, hasPort, h1]
    go_enter Try.func79, Try.ntmps79
    go_wp2
    go_ret
    exact ⟨by rw [hf.out]; rfl, rfl⟩
end Go.Proofs.Ytljojgpjgjfddaa
