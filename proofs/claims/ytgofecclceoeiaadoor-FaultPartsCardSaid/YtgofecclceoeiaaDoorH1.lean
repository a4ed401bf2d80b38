/- The laws FaultValid, FaultAt, FaultWithin. -/
import Derived.Test.YtgofecclceoeiaaDoorG6
namespace Go.Proofs.YtgofecclceoeiaaDoor.ST
open Go.RowKit Go.Proofs.YtgofecclceoeiaaDoorW.PrintWords Go.Proofs.YtgofecclceoeiaaDoorW.PrintLast Go.Proofs.YtgofecclceoeiaaDoorW.PrintMore Go.Proofs.YtgofecclceoeiaaDoor.PF
set_option linter.unusedVariables false
set_option linter.unusedSimpArgs false
set_option maxRecDepth 100000 in
theorem FaultValid_law (w : World) (A0 : Option Addr) (c0 : Nat) (l : List S32) (hr0 : Kd.C k32 w A0 l.length l) (hc0 : l.length ≤ c0) (hL : Ld w) (hn : l.length ≤ 5864062014634) :
    Calls Tryd.prog 3 #[.slice A0 l.length c0] w fun e w' => e = .returned (.bool true) ∧ Below w.heap.size w w' := by
  have HN := Aside0.mk hn
  have HR := Aside0.mk hr0
  have HC := Aside0.mk hc0
  clear hn hr0 hc0
  go_enter Tryd.func3, Tryd.ntmps3
  go_wp2_with fail
  refine (awake_any w hL).mono ?_
  rintro e w1 ⟨rfl, hb⟩
  have HB := Aside0.mk hb
  clear hb
  go_wp2_with fail
  refine (fault_Valid.calls (l.length + 1) A0 c0 l (okAll (-1) l) w1 (Kd.C_below HR.out HB.out) HC.out (valid_f l (by have := HN.out; omega))).mono ?_
  rintro e w2 ⟨rfl, hb⟩
  replace HB := Aside0.mk (below_step HB.out hb)
  clear hb
  go_wp2_with fail
  refine (tegularef13_Valid.calls (l.length + 1) A0 c0 l (okAll (-1) l) w2 (Kd.C_below HR.out HB.out) HC.out (rvalid_f l (by have := HN.out; omega))).mono ?_
  rintro e w3 ⟨rfl, hb⟩
  replace HB := Aside0.mk (below_step HB.out hb)
  clear hb
  go_wp2
  go_ret
  exact ⟨by simp, HB.out⟩
/-- At. -/
def atL (op : Int) : List S32 → Int × Int × Int × Bool
  | [] => (0, 0, 0, false)
  | x :: r => if x.f0 = op then (x.f0, x.f1, x.f2, true) else atL op r
theorem at_l0 (l : List S32) (op : Int) (hn : l.length ≤ 140737488355328) : ∀ (k i : Nat), i ≤ l.length → l.length - i < k → fault_At.l0 k op l (l.length : Int) (i : Int) = some (atL op (l.drop i))
  | 0, i, hi, hk => by omega
  | k + 1, i, hi, hk => by
    simp only [fault_At.l0]
    by_cases h : i < l.length
    · rw [if_pos (by omega), if_pos (by omega), if_pos (by omega), rd_at l i h, w64 i l.length h hn, at_l0 l op hn k (i + 1) h (by omega), List.drop_eq_getElem_cons h]
      simp only [atL]
      split <;> rfl
    · rw [if_neg (by omega), List.drop_of_length_le (by omega)]; rfl
theorem rat_l0 (l : List S32) (op : Int) (hn : l.length ≤ 140737488355328) : ∀ (k i : Nat), i ≤ l.length → l.length - i < k → tegularef13_At.l0 k l op (i : Int) = some (atL op (l.drop i))
  | 0, i, hi, hk => by omega
  | k + 1, i, hi, hk => by
    simp only [tegularef13_At.l0]
    by_cases h : i < l.length
    · rw [if_pos (by omega), if_pos (by omega), rd_at l i h, w64 i l.length h hn, rat_l0 l op hn k (i + 1) h (by omega), List.drop_eq_getElem_cons h]
      simp only [atL]
      split <;> rfl
    · rw [if_neg (by omega), List.drop_of_length_le (by omega)]; rfl
theorem at_f (l : List S32) (op : Int) (hn : l.length ≤ 140737488355328) : fault_At.f (l.length + 1) l op = some (atL op l) := by
  have := at_l0 l op hn (l.length + 1) 0 (by omega) (by omega)
  simpa [fault_At.f] using this
theorem rat_f (l : List S32) (op : Int) (hn : l.length ≤ 140737488355328) : tegularef13_At.f (l.length + 1) l op = some (atL op l) := by
  have := rat_l0 l op hn (l.length + 1) 0 (by omega) (by omega)
  simpa [tegularef13_At.f] using this
set_option maxHeartbeats 1000000 in
set_option maxRecDepth 100000 in
theorem FaultAt_law (w : World) (A0 : Option Addr) (c0 : Nat) (l : List S32) (op : Int) (hr0 : Kd.C k32 w A0 l.length l) (hc0 : l.length ≤ c0) (hL : Ld w) (hn : l.length ≤ 5864062014634) :
    Calls Tryd.prog 6 #[.slice A0 l.length c0, .int .i64 op] w fun e w' => e = .returned (.bool true) ∧ Below w.heap.size w w' := by
  have hu32 := Tryd.underlying32
  obtain ⟨r1, r2, r3, r4, hat⟩ : ∃ r1 r2 r3 r4, atL op l = (r1, r2, r3, r4) := ⟨_, _, _, _, rfl⟩
  have ha1 := at_f l op (by omega)
  have ha2 := rat_f l op (by omega)
  rw [hat] at ha1 ha2
  have HA1 := Aside0.mk ha1
  have HA2 := Aside0.mk ha2
  clear hat ha1 ha2
  have HN := Aside0.mk hn
  have HR := Aside0.mk hr0
  have HC := Aside0.mk hc0
  clear hn hr0 hc0
  go_enter Tryd.func6, Tryd.ntmps6
  go_wp2_with fail
  refine (fault_At.calls (l.length + 1) A0 c0 l op r1 r2 r3 r4 w HR.out HC.out HA1.out).mono ?_
  rintro e w1 ⟨rfl, hb⟩
  have HB := Aside0.mk hb
  clear hb
  go_wp2_with fail
  have q1 := Aside0.mk (blk_new w1 (.cells #[.int .i64 r1, .int .i64 r2, .int .i64 r3] 32))
  replace HB := Aside0.mk (below_alloc HB.out (.cells #[.int .i64 r1, .int .i64 r2, .int .i64 r3] 32))
  generalize w1.alloc (.cells #[.int .i64 r1, .int .i64 r2, .int .i64 r3] 32) = w2 at q1 HB ⊢
  generalize w1.heap.size = g1 at q1 ⊢
  refine (tegularef13_At.calls (l.length + 1) A0 c0 l op r1 r2 r3 r4 w2 (Kd.C_below HR.out HB.out) HC.out HA2.out).mono ?_
  rintro e w3 ⟨rfl, hb⟩
  replace q1 := Aside0.mk (blk_below q1.out hb)
  replace HB := Aside0.mk (below_step HB.out hb)
  clear hb
  go_wp2_with fail
  have q2 := Aside0.mk (blk_new w3 (.cells #[.int .i64 r1, .int .i64 r2, .int .i64 r3] 32))
  replace q1 := Aside0.mk (blk_alloc q1.out (.cells #[.int .i64 r1, .int .i64 r2, .int .i64 r3] 32))
  replace HB := Aside0.mk (below_alloc HB.out (.cells #[.int .i64 r1, .int .i64 r2, .int .i64 r3] 32))
  generalize w3.alloc (.cells #[.int .i64 r1, .int .i64 r2, .int .i64 r3] 32) = w4 at q1 q2 HB ⊢
  generalize w3.heap.size = g2 at q2 ⊢
  refine (awake_any w4 (hL.below HB.out)).mono ?_
  rintro e w5 ⟨rfl, hb⟩
  replace q1 := Aside0.mk (blk_below q1.out hb)
  replace q2 := Aside0.mk (blk_below q2.out hb)
  replace HB := Aside0.mk (below_step HB.out hb)
  clear hb
  have a0 := (blk_cell q1.out 0).trans (show _ = some (Value.int .i64 r1) from rfl)
  have a1 := (blk_cell q1.out 1).trans (show _ = some (Value.int .i64 r2) from rfl)
  have a2 := (blk_cell q1.out 2).trans (show _ = some (Value.int .i64 r3) from rfl)
  have b0 := (blk_cell q2.out 0).trans (show _ = some (Value.int .i64 r1) from rfl)
  have b1 := (blk_cell q2.out 1).trans (show _ = some (Value.int .i64 r2) from rfl)
  have b2 := (blk_cell q2.out 2).trans (show _ = some (Value.int .i64 r3) from rfl)
  have heq := fun d w => eqA32 d w r1 r1 r2 r2 r3 r3
  go_wp2
  all_goals first | (go_ret; exact ⟨by simp, HB.out⟩) | trace_state
/-- Within. -/
def winL (a b : Int) (l : List S32) : List S32 := l.filter fun x => decide (a ≤ x.f0) && decide (x.f0 < b)
theorem win_step (a b : Int) (l : List S32) (i : Nat) (h : i < l.length) : winL a b (l.take (i + 1)) = if a ≤ (l[i]).f0 ∧ (l[i]).f0 < b then winL a b (l.take i) ++ [l[i]] else winL a b (l.take i) := by
  unfold winL
  rw [List.take_add_one, List.getElem?_eq_getElem h, List.filter_append]
  by_cases h1 : a ≤ (l[i]).f0 <;> by_cases h2 : (l[i]).f0 < b <;> simp [h1, h2]
theorem winL_len (a b : Int) (l : List S32) (i : Nat) : (winL a b (l.take i)).length ≤ i := Nat.le_trans (List.length_filter_le _ _) (by rw [List.length_take]; omega)
theorem win_l0 (l : List S32) (a b : Int) (hn : l.length ≤ 5864062014634) : ∀ (k i : Nat), i ≤ l.length → l.length - i < k → fault_Within.l0 k a b (winL a b (l.take i)) l (l.length : Int) (i : Int) = some (winL a b l)
  | 0, i, hi, hk => by omega
  | k + 1, i, hi, hk => by
    simp only [fault_Within.l0]
    by_cases h : i < l.length
    · have ih := win_l0 l a b hn k (i + 1) h (by omega)
      rw [win_step a b l i h] at ih
      have hlen := winL_len a b l i
      rw [if_pos (by omega), if_pos (by omega), if_pos (by omega), rd_at l i h, w64 i l.length h (by omega)]
      by_cases h1 : a ≤ (l[i]).f0
      · rw [if_pos h1]
        by_cases h2 : (l[i]).f0 < b
        · rw [if_pos h2, if_pos (by omega)]
          rw [if_pos ⟨h1, h2⟩] at ih
          exact ih
        · rw [if_neg h2]
          rw [if_neg (fun e => h2 e.2)] at ih
          exact ih
      · rw [if_neg h1]
        rw [if_neg (fun e => h1 e.1)] at ih
        exact ih
    · rw [if_neg (by omega), List.take_of_length_le (by omega)]
theorem win_f (l : List S32) (a b : Int) (hn : l.length ≤ 5864062014634) : fault_Within.f (l.length + 1) l a b = some (winL a b l) := by
  have := win_l0 l a b hn (l.length + 1) 0 (by omega) (by omega)
  simpa [fault_Within.f, winL] using this
theorem rwin_l0 (l : List S32) (a b : Int) (hn : l.length ≤ 5864062014634) : ∀ (k i : Nat), i ≤ l.length → l.length - i < k → tegularef13_Within.l0 k l a b (winL a b (l.take i)) (i : Int) = some (winL a b l)
  | 0, i, hi, hk => by omega
  | k + 1, i, hi, hk => by
    simp only [tegularef13_Within.l0]
    by_cases h : i < l.length
    · have ih := rwin_l0 l a b hn k (i + 1) h (by omega)
      rw [win_step a b l i h] at ih
      have hlen := winL_len a b l i
      rw [if_pos (by omega), if_pos (by omega), rd_at l i h, w64 i l.length h (by omega)]
      by_cases h1 : a ≤ (l[i]).f0
      · rw [if_pos (show (l[i]).f0 ≥ a from h1)]
        by_cases h2 : (l[i]).f0 < b
        · rw [if_pos h2, if_pos (by omega)]
          rw [if_pos ⟨h1, h2⟩] at ih
          exact ih
        · rw [if_neg h2]
          rw [if_neg (fun e => h2 e.2)] at ih
          exact ih
      · rw [if_neg (show ¬ (l[i]).f0 ≥ a from h1)]
        rw [if_neg (fun e => h1 e.1)] at ih
        exact ih
    · rw [if_neg (by omega), List.take_of_length_le (by omega)]
theorem rwin_f (l : List S32) (a b : Int) (hn : l.length ≤ 5864062014634) : tegularef13_Within.f (l.length + 1) l a b = some (winL a b l) := by
  have := rwin_l0 l a b hn (l.length + 1) 0 (by omega) (by omega)
  simpa [tegularef13_Within.f, winL] using this
set_option maxHeartbeats 1000000 in
set_option maxRecDepth 100000 in
theorem FaultWithin_law (w : World) (A0 : Option Addr) (c0 : Nat) (l : List S32) (a b : Int) (hr0 : Kd.C k32 w A0 l.length l) (hc0 : l.length ≤ c0) (hL : Ld w) (hn : l.length ≤ 5864062014634) :
    Calls Tryd.prog 7 #[.slice A0 l.length c0, .int .i64 a, .int .i64 b] w fun e w' => e = .returned (.bool true) ∧ Below w.heap.size w w' := by
  have HN := Aside0.mk hn
  have HR := Aside0.mk hr0
  have HC := Aside0.mk hc0
  clear hn hr0 hc0
  go_enter Tryd.func7, Tryd.ntmps7
  go_wp2_with fail
  refine (awake_any w hL).mono ?_
  rintro e w1 ⟨rfl, hb⟩
  have HB := Aside0.mk hb
  clear hb
  go_wp2_with fail
  refine (fault_Within.calls (l.length + 1) A0 c0 l a b (winL a b l) w1 (Kd.C_below HR.out HB.out) HC.out (win_f l a b HN.out)).mono ?_
  rintro e w2 ⟨v1, rfl, hR1, hb⟩
  have R1 := Aside0.mk hR1
  replace HB := Aside0.mk (below_step HB.out hb)
  clear hb hR1
  go_wp2_with fail
  refine (tegularef13_Within.calls (l.length + 1) A0 c0 l a b (winL a b l) w2 (Kd.C_below HR.out HB.out) HC.out (rwin_f l a b HN.out)).mono ?_
  rintro e w3 ⟨v2, rfl, hR2, hb⟩
  replace R1 := Aside0.mk (Kd.R_below R1.out hb)
  replace HB := Aside0.mk (below_step HB.out hb)
  obtain ⟨P1, d1, rfl, hle1, hC1⟩ := Kd.R_reads R1.out
  obtain ⟨P2, d2, rfl, hle2, hC2⟩ := Kd.R_reads hR2
  have HC1 := Aside0.mk hC1
  have HC2 := Aside0.mk hC2
  have HE1 := Aside0.mk hle1
  have HE2 := Aside0.mk hle2
  have hlw : (winL a b l).length ≤ 140737488355328 := by
    have := List.length_filter_le (fun x : S32 => decide (a ≤ x.f0) && decide (x.f0 < b)) l
    have := HN.out
    unfold winL
    omega
  have HLW := Aside0.mk hlw
  clear hb hR2 hC1 hC2 hle1 hle2 hlw R1
  generalize winL a b l = m at *
  go_wp2_with fail
  refine (tegularef13_Same.calls (m.length + 1) P1 d1 m P2 d2 m true w3 HC1.out HE1.out HC2.out HE2.out (same_f m HLW.out)).mono ?_
  rintro e w4 ⟨rfl, hd⟩
  replace HB := Aside0.mk (below_step HB.out hd.below)
  clear hd
  go_wp2
  go_ret
  exact ⟨rfl, HB.out⟩
end Go.Proofs.YtgofecclceoeiaaDoor.ST
