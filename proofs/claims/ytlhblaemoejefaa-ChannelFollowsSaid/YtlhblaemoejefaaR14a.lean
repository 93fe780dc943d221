/- The contracts of fairlinkref14.Name and place. -/
import Derived.Test.YtlhblaemoejefaaGValid
import Derived.Deep.QuietTactic
import Derived.BigQuiet
namespace Go.Proofs.Ytlhblaemoejefaa
open Go.RowKit Go.Maps
set_option linter.unusedVariables false

theorem bdrewN {B : Nat} {a w : World} (h : Below B a w) (n : Nat) : Below B a (w.drewN n) := ⟨h.os, h.tape, h.output, h.size, h.block⟩
set_option maxHeartbeats 1000000 in
theorem r14name_any (s : ByteArray) (w : World) :
    Calls Try.prog 47 #[.string s] w fun e w' => e = .returned (.bool (okName s)) ∧ w = w' := by
  by_cases h1 : s.size < 1
  · have hf : okName s = false := by simp [okName]; omega
    have HF := Lib.hid hf
    clear hf
    go_enter Try.func47, Try.ntmps47
    go_wp2
    go_ret
    exact ⟨by rw [HF.out]; rfl, rfl⟩
  by_cases h2 : 20 < s.size
  · have hf : okName s = false := by simp [okName]; omega
    have HF := Lib.hid hf
    clear hf
    go_enter Try.func47, Try.ntmps47
    go_wp2
    go_ret
    exact ⟨by rw [HF.out]; rfl, rfl⟩
  have hs : okName s = okTo s s.size := by
    unfold okName okTo
    rw [decide_eq_true (by omega : 1 ≤ s.size), decide_eq_true (by omega : s.size ≤ 20)]; rfl
  have HS := Lib.hid hs
  clear hs
  go_enter Try.func47, Try.ntmps47
  go_wp2
  go_loop [3] (fun i => ∃ k : Nat, k ≤ s.size ∧ i = .int .i64 k ∧ okTo s k = true) (fun i => s.size - (intOf i).toNat)
  case atStart => exact ⟨0, Nat.zero_le _, rfl, rfl⟩
  case round =>
    obtain ⟨k, hk, rfl, hok⟩ := hrel
    have HOK := Lib.hid hok
    clear hok
    by_cases hlt : k < s.size
    · have OS : Hid (okTo s (k + 1) = okByte k s[k]) := by rw [Hid, okTo_succ, HOK.out, byte_at s k hlt]; rfl
      have OB := Lib.hid (okByte_iff k s[k])
      by_cases hl : 97 ≤ (s[k].toNat : Int) ∧ (s[k].toNat : Int) ≤ 122
      · have fin : Hid (okTo s (k + 1) = true) := by rw [Hid, OS.out, OB.out, decide_eq_true (.inl hl)]
        clear OS OB HOK
        obtain ⟨l1, l2⟩ := hl
        go_wp2
        all_goals
          go_round
          case rel => exact ⟨k + 1, by omega, by go_num, fin.out⟩
          case measure => simp [intOf]; omega
      · by_cases hd : k ≠ 0 ∧ 48 ≤ (s[k].toNat : Int) ∧ (s[k].toNat : Int) ≤ 57
        · have fin : Hid (okTo s (k + 1) = true) := by rw [Hid, OS.out, OB.out, decide_eq_true (.inr hd)]
          clear OS OB HOK
          obtain ⟨d0, d1, d2⟩ := hd
          have hk0 : ((k : Int) == 0) = false := by rw [beq_eq_false_iff_ne]; omega
          have l1 : (s[k].toNat : Int) < 97 := by omega
          clear hl d0
          go_wp2
          all_goals
            go_round
            case rel => exact ⟨k + 1, by omega, by go_num, fin.out⟩
            case measure => simp [intOf]; omega
        · have fin : Hid (okName s = false) := by
            rw [Hid, HS.out]
            refine okTo_mono s (k + 1) ?_ _ (by omega)
            rw [OS.out, OB.out, decide_eq_false (by omega)]
          clear OS OB HOK HS
          by_cases hk0 : k = 0
          · have q0 : ((k : Int) == 0) = true := by rw [hk0]; rfl
            rcases (by omega : (s[k].toNat : Int) < 97 ∨ (97 ≤ (s[k].toNat : Int) ∧ 122 < (s[k].toNat : Int))) with l1 | ⟨l1, l2⟩ <;> clear hl hd hk0
            all_goals
              try (have b2 : decide ((s[k].toNat : Int) ≤ 122) = false := decide_eq_false (by omega))
              go_wp2
              all_goals
                go_ret
                exact ⟨by rw [fin.out]; rfl, rfl⟩
          · have q0 : ((k : Int) == 0) = false := by rw [beq_eq_false_iff_ne]; omega
            rcases (by omega : ((s[k].toNat : Int) < 97 ∧ (s[k].toNat : Int) < 48) ∨ ((s[k].toNat : Int) < 97 ∧ 48 ≤ (s[k].toNat : Int) ∧ 57 < (s[k].toNat : Int)) ∨ (97 ≤ (s[k].toNat : Int) ∧ 122 < (s[k].toNat : Int))) with ⟨l1, l2⟩ | ⟨l1, l2, l3⟩ | ⟨l1, l2⟩ <;> clear hl hd hk0
            all_goals
              try (have b2 : decide ((s[k].toNat : Int) ≤ 122) = false := decide_eq_false (by omega))
              try (have b3 : decide ((s[k].toNat : Int) ≤ 57) = false := decide_eq_false (by omega))
              go_wp2
              all_goals
                go_ret
                exact ⟨by rw [fin.out]; rfl, rfl⟩
    · have e : k = s.size := by omega
      have fin : Hid (okName s = true) := by rw [Hid, HS.out, ← e, HOK.out]
      clear e HOK HS
      go_wp2
      go_ret
      exact ⟨by rw [fin.out]; rfl, rfl⟩

theorem place_any (p : Pl) (An Ac : Option Addr) (cn cc : Nat) (node port : Int) (w : World) (hl : p.ns.length ≤ 1000000) (h : IsPlan w An Ac p) :
    Calls Try.prog 48 #[.agg #[.slice An p.ns.length cn, .slice Ac p.cs.length cc], .int .i64 node, .int .i64 port] w fun e w' =>
      e = .returned (.bool (hasPort p.ns node port)) ∧ w.alloc (.cells #[.slice An p.ns.length cn, .slice Ac p.cs.length cc] 40) = w' := by
  have H := Lib.hid (h.alloc (.cells #[.slice An p.ns.length cn, .slice Ac p.cs.length cc] 40)).1
  clear h
  by_cases h1 : 0 ≤ node
  · by_cases h2 : node < p.ns.length
    · by_cases h3 : 0 ≤ port
      · have hf : Hid (hasPort p.ns node port = decide (port < (p.ns.getD node.toNat nd0).ports)) := by simp [Hid, hasPort, h1, h2, h3]
        obtain ⟨k, rfl⟩ : ∃ k : Nat, node = k := ⟨node.toNat, by omega⟩
        obtain ⟨b, off, ha, hb, hm, c0, c1, c2⟩ := node_at H.out k (by omega)
        rw [Int.toNat_natCast] at hf
        generalize p.ns.getD k nd0 = x at *
        generalize hq : p.ns.length = ln at *
        clear hq
        subst ha
        go_enter Try.func48, Try.ntmps48
        go_wp2
        go_ret
        refine ⟨?_, rfl⟩
        rw [hf.out]
        rfl
      · have hf : Hid (hasPort p.ns node port = false) := by simp [Hid, hasPort, h1, h2, h3]
        go_enter Try.func48, Try.ntmps48
        go_wp2
        go_ret
        exact ⟨by rw [hf.out]; rfl, rfl⟩
    · have hf : Hid (hasPort p.ns node port = false) := by simp [Hid, hasPort, h1, h2]
      go_enter Try.func48, Try.ntmps48
      go_wp2
      go_ret
      exact ⟨by rw [hf.out]; rfl, rfl⟩
  · have hf : Hid (hasPort p.ns node port = false) := by simp [Hid, hasPort, h1]
    go_enter Try.func48, Try.ntmps48
    go_wp2
    go_ret
    exact ⟨by rw [hf.out]; rfl, rfl⟩

theorem place_any2 (ns : List Nd) (cs : List Cb) (An Ac : Option Addr) (cn cc : Nat) (node port : Int) (w : World) (hl : ns.length ≤ 1000000) (h : IsPlan w An Ac ⟨ns, cs⟩) (r : Bool) (hr : hasPort ns node port = r)
    (ob : Obj) (hob : Obj.cells #[.slice An ns.length cn, .slice Ac cs.length cc] 40 = ob) :
    Calls Try.prog 48 #[.agg #[.slice An ns.length cn, .slice Ac cs.length cc], .int .i64 node, .int .i64 port] w fun e w' => e = .returned (.bool r) ∧ w.alloc ob = w' := by
  subst hr; subst hob
  exact place_any ⟨ns, cs⟩ An Ac cn cc node port w hl h
end Go.Proofs.Ytlhblaemoejefaa
