import Derived.Test.YthbnghdobmghlaaDoorVJ3
import Derived.Deep.RegionHeld3
import Derived.Deep.QuietTactic
import Derived.BigQuiet
import Derived.Laws.BitsAllLaws
namespace Go.Proofs.YthbnghdobmghlaaDoor.ST
open Go.RowKit Go.Proofs.YthbnghdobmghlaaDoorW.PrintWords Go.Proofs.YthbnghdobmghlaaDoorW.PrintLast Go.Proofs.YthbnghdobmghlaaDoorW.PrintMore Go.Proofs.YthbnghdobmghlaaDoor.PC
set_option linter.unusedVariables false
set_option linter.unusedSimpArgs false
def hexD (n : Int) : Int := if n < 10 then 48 + n else 87 + n
def list8 (x : S35) : List Int := [x.f0, x.f1, x.f2, x.f3, x.f4, x.f5, x.f6, x.f7]
def hexN (l : List Int) : List Int := l.flatMap fun b => [hexD (b / 16), hexD (b % 16)]
def hexB (x : S35) : ByteArray := strOfNums (hexN (list8 x))
def agg8 (l : List Int) : Value := .agg (l.map (Value.int .u8)).toArray
set_option maxRecDepth 100000 in
theorem index8 (l : List Int) (hl : l.length = 8) (i : Nat) (hi : i < 8) (w : World) : (Instr.index 35 (agg8 l) (.int .i64 i)).run Tryd.prog w = .ok (.int .u8 (l.getD i 0)) w := by
  obtain ⟨a0, a1, a2, a3, a4, a5, a6, a7, rfl⟩ : ∃ a0 a1 a2 a3 a4 a5 a6 a7, l = [a0, a1, a2, a3, a4, a5, a6, a7] := by
    rcases l with _ | ⟨a0, _ | ⟨a1, _ | ⟨a2, _ | ⟨a3, _ | ⟨a4, _ | ⟨a5, _ | ⟨a6, _ | ⟨a7, _ | ⟨a8, l⟩⟩⟩⟩⟩⟩⟩⟩⟩ <;> simp at hl
    exact ⟨a0, a1, a2, a3, a4, a5, a6, a7, rfl⟩
  have h8 : i = 0 ∨ i = 1 ∨ i = 2 ∨ i = 3 ∨ i = 4 ∨ i = 5 ∨ i = 6 ∨ i = 7 := by omega
  rcases h8 with rfl | rfl | rfl | rfl | rfl | rfl | rfl | rfl <;> rfl
def digits : ByteArray := ⟨#[48, 49, 50, 51, 52, 53, 54, 55, 56, 57, 97, 98, 99, 100, 101, 102]⟩
set_option maxRecDepth 100000 in
theorem indexD (n : Int) (h0 : 0 ≤ n) (h1 : n < 16) (w : World) : (Instr.index 9 (.string digits) (.int .u8 n)).run Tryd.prog w = .ok (.int .u8 (hexD n)) w := by
  have h : n = 0 ∨ n = 1 ∨ n = 2 ∨ n = 3 ∨ n = 4 ∨ n = 5 ∨ n = 6 ∨ n = 7 ∨ n = 8 ∨ n = 9 ∨ n = 10 ∨ n = 11 ∨ n = 12 ∨ n = 13 ∨ n = 14 ∨ n = 15 := by omega
  rcases h with rfl | rfl | rfl | rfl | rfl | rfl | rfl | rfl | rfl | rfl | rfl | rfl | rfl | rfl | rfl | rfl <;> rfl
theorem and15 (b : Int) (h0 : 0 ≤ b) (h1 : b ≤ 255) : Go.bits .and .u8 b 15 = b % 16 := by
  obtain ⟨n, rfl⟩ : ∃ n : Nat, b = n := ⟨b.toNat, by omega⟩
  rw [show (15 : Int) = ((15 : Nat) : Int) from rfl, u8_and_nat n 15 (by omega) (by decide)]
  have : n &&& 15 = n % 16 := Nat.and_two_pow_sub_one_eq_mod n 4
  rw [this]; omega
theorem ret_eq {k : IntKind} {a b : Int} (h : a = b) : Ending.returned (.int k a) = .returned (.int k b) := by rw [h]
theorem hexN_take (l : List Int) (i : Nat) (hi : i < l.length) : hexN (l.take (i + 1)) = hexN (l.take i) ++ [hexD (l.getD i 0 / 16), hexD (l.getD i 0 % 16)] := by
  unfold hexN
  rw [List.take_add_one, List.getElem?_eq_getElem hi, List.flatMap_append, List.getD_eq_getElem?_getD, List.getElem?_eq_getElem hi]
  simp
theorem hexN_len (l : List Int) : (hexN l).length = 2 * l.length := by
  unfold hexN
  induction l with
  | nil => rfl
  | cons a r ih => rw [List.flatMap_cons, List.length_append, ih]; simp; omega
theorem two_C (W : World) (a b : Int) : ReadsRow ((Kd.int .u8).K (W.alloc (.cells #[.int .u8 a, .int .u8 b] 5))) (Kd.int .u8).sz (W.alloc (.cells #[.int .u8 a, .int .u8 b] 5)) (some ⟨W.heap.size, 0, none⟩) 2 [a, b] := by
  have h := blk_new W (.cells #[.int .u8 a, .int .u8 b] 5)
  refine ⟨rfl, by decide, fun _ => ⟨⟨W.heap.size, 0, none⟩, rfl, fun j p hp => ?_⟩⟩
  refine ⟨_, rfl, rfl, ?_⟩
  intro i u hu
  have hj : j < 2 := (List.getElem?_eq_some_iff.1 hp).1
  have hi : i < 1 := by have := (List.getElem?_eq_some_iff.1 hu).1; simpa using this
  obtain rfl : i = 0 := by omega
  rcases (by omega : j = 0 ∨ j = 1) with rfl | rfl <;>
    (obtain rfl := Option.some.inj hp; obtain rfl := Option.some.inj hu; exact (blk_cell h _).trans rfl)
def okL (l : List Int) : Prop := l.length = 8 ∧ ∀ i, i < 8 → 0 ≤ l.getD i 0 ∧ l.getD i 0 ≤ 255
set_option maxHeartbeats 8000000 in
set_option maxRecDepth 100000 in
theorem hexL_any (l : List Int) (hl : okL l) (w : World) : Calls Tryd.prog 31 #[agg8 l] w fun e w' => e = .returned (.string (strOfNums (hexN l))) ∧ Below w.heap.size w w' := by
  have hu35 := Tryd.underlying35
  have HL := Aside0.mk hl
  clear hl
  obtain ⟨a0, a1, a2, a3, a4, a5, a6, a7, rfl⟩ : ∃ a0 a1 a2 a3 a4 a5 a6 a7, l = [a0, a1, a2, a3, a4, a5, a6, a7] := by
    have hl := HL.out.1
    rcases l with _ | ⟨a0, _ | ⟨a1, _ | ⟨a2, _ | ⟨a3, _ | ⟨a4, _ | ⟨a5, _ | ⟨a6, _ | ⟨a7, _ | ⟨a8, l⟩⟩⟩⟩⟩⟩⟩⟩⟩ <;> simp at hl
    exact ⟨a0, a1, a2, a3, a4, a5, a6, a7, rfl⟩
  change Calls Tryd.prog 31 #[.agg #[.int .u8 a0, .int .u8 a1, .int .u8 a2, .int .u8 a3, .int .u8 a4, .int .u8 a5, .int .u8 a6, .int .u8 a7]] w _
  go_enter Tryd.func31, Tryd.ntmps31
  go_wp2
  have HB := Aside0.mk (below_alloc (Below.refl w.heap.size w) (.cells #[.int .u8 a0, .int .u8 a1, .int .u8 a2, .int .u8 a3, .int .u8 a4, .int .u8 a5, .int .u8 a6, .int .u8 a7] 35))
  generalize w.alloc (.cells #[.int .u8 a0, .int .u8 a1, .int .u8 a2, .int .u8 a3, .int .u8 a4, .int .u8 a5, .int .u8 a6, .int .u8 a7] 35) = w1 at HB ⊢
  generalize hl : [a0, a1, a2, a3, a4, a5, a6, a7] = l at HL ⊢
  have hag : Value.agg #[.int .u8 a0, .int .u8 a1, .int .u8 a2, .int .u8 a3, .int .u8 a4, .int .u8 a5, .int .u8 a6, .int .u8 a7] = agg8 l := by rw [← hl]; rfl
  rw [hag]
  have HLE := Lib.hid hl
  clear hag hl
  go_loopg [3, 7] 8 (fun kq v3 v7 w' => ∃ i : Nat, v7 = .int .i64 i ∧ Aside0 (i ≤ 8 ∧ kq = 8 - i) ∧ Aside0 (Kd.R (Kd.int .u8) 5 w' w.heap.size (fun _ => True) v3 (hexN (l.take i))) ∧ Aside0 (Below w.heap.size w w'))
  case atStart => exact ⟨0, rfl, ⟨by omega, rfl⟩, ⟨Kd.R_nil _ _ _ _ _⟩, HB⟩
  case round =>
    clear HB
    obtain ⟨i, rfl, HI, HR, HB⟩ := hrel
    by_cases h : i < 8
    · have d1 : decide ((i : Int) < 8) = true := decide_eq_true (by omega)
      have LIM : Aside0 (((hexN (l.take i)).length + 2) * 1 ≤ 140737488355328) := ⟨by rw [hexN_len, List.length_take]; omega⟩
      have hix : ∀ w, (Instr.index 35 (agg8 l) (.int .i64 i)).run Tryd.prog w = .ok (.int .u8 (l.getD i 0)) w := fun w => index8 l HL.out.1 i h w
      have hb := HL.out.2 i h
      generalize hbv : l.getD i 0 = b at hix hb
      obtain ⟨hb0, hb1⟩ := hb
      have HBV := Lib.hid hbv
      clear hbv
      go_wp2
      have hi1 : ∀ w, (Instr.index 9 (.string ⟨#[48, 49, 50, 51, 52, 53, 54, 55, 56, 57, 97, 98, 99, 100, 101, 102]⟩) (.int .u8 (b / 16))).run Tryd.prog w = .ok (.int .u8 (hexD (b / 16))) w := indexD _ (by omega) (by omega)
      have hi2 : ∀ w, (Instr.index 9 (.string ⟨#[48, 49, 50, 51, 52, 53, 54, 55, 56, 57, 97, 98, 99, 100, 101, 102]⟩) (.int .u8 (Go.bits .and .u8 b 15))).run Tryd.prog w = .ok (.int .u8 (hexD (b % 16))) w := by rw [and15 b hb0 hb1]; exact indexD _ (by omega) (by omega)
      go_region_held3 (fun W => True) (first | trivial) (first
        | ((refine Kd.R_append_rows_step (Kd.int .u8) (w0 := w) w.heap.size rfl (.tmp 10) (.tmp 17) 63 5 (.int .u8 0) 1 rfl Tryd.underlying63 info5 rfl (by decide) (by decide) _ (hexN (l.take i)) [hexD (b / 16), hexD (b % 16)] _ 2 2 (fun _ => True) (fun _ => False) rfl rfl (Kd.R_below HR.out (below_alloc (below_drew1 (Below.refl _ _)) _)) (two_C _ _ _) (fun _ _ h => h) (fun _ h => h.elim) (fun _ _ => trivial) (below_alloc (below_drew1 HB.out) _) (below_size (below_alloc (below_drew1 HB.out) _)) LIM.out ?_); intro v1 w8 ho hb _ _; have HO := Aside0.mk ho; have HB8 := Aside0.mk hb; clear ho hb))
      all_goals
        go_wp2
        go_roundg (8 - (i + 1))
        case measure => have := HI.out; omega
        case rel =>
          refine ⟨i + 1, by first | rfl | (simp; omega) | (unfold wrap64; simp; omega), ⟨by omega, rfl⟩, ⟨?_⟩, HB8⟩
          rw [hexN_take l i (by rw [HL.out.1]; exact h), HBV.out]
          exact HO.out
    · have hi : i = 8 := by have := HI.out; omega
      subst hi
      have hlt : l.take 8 = l := List.take_of_length_le (by rw [HL.out.1]; decide)
      have hr := HR.out
      rw [hlt] at hr
      obtain ⟨A1, c1, rfl, hle, hC⟩ := Kd.R_reads hr
      have hcv := fun W (hc : Kd.C (Kd.int .u8) W A1 (hexN l).length (hexN l)) => Kd.C_string (c := c1) Tryd.underlying63 Tryd.underlying5 Tryd.underlying9 hc
      have hcv := hcv _ hC
      clear hC hr hle HR hlt
      go_wp2
      go_ret
      exact ⟨by rw [HLE.out]; rfl, HB.out⟩
theorem hex65 (n : Int) (h0 : 0 ≤ n) (h1 : n < 16) (w : World) : Calls Tryd.prog 65 #[.int .u8 n] w fun e w' => e = .returned (.int .u8 (hexD n)) ∧ w = w' := by
  by_cases h : n < 10
  · have d : decide (n < 10) = true := decide_eq_true h
    have e : hexD n = 48 + n := by unfold hexD; rw [if_pos h]
    rw [e]
    go_enter Tryd.func65, Tryd.ntmps65
    go_wp2
    go_ret
    exact ⟨by first | rfl | simp, rfl⟩
  · have d : decide (n < 10) = false := decide_eq_false h
    have e : hexD n = 87 + n := by unfold hexD; rw [if_neg h]
    rw [e]
    go_enter Tryd.func65, Tryd.ntmps65
    go_wp2
    go_ret
    exact ⟨ret_eq (by omega), rfl⟩
set_option maxHeartbeats 8000000 in
set_option maxRecDepth 100000 in
theorem rblockL_any (l : List Int) (hl : okL l) (w : World) : Calls Tryd.prog 49 #[agg8 l] w fun e w' => e = .returned (.string (strOfNums (hexN l))) ∧ Below w.heap.size w w' := by
  have hu35 := Tryd.underlying35
  have HL := Aside0.mk hl
  clear hl
  obtain ⟨a0, a1, a2, a3, a4, a5, a6, a7, rfl⟩ : ∃ a0 a1 a2 a3 a4 a5 a6 a7, l = [a0, a1, a2, a3, a4, a5, a6, a7] := by
    have hl := HL.out.1
    rcases l with _ | ⟨a0, _ | ⟨a1, _ | ⟨a2, _ | ⟨a3, _ | ⟨a4, _ | ⟨a5, _ | ⟨a6, _ | ⟨a7, _ | ⟨a8, l⟩⟩⟩⟩⟩⟩⟩⟩⟩ <;> simp at hl
    exact ⟨a0, a1, a2, a3, a4, a5, a6, a7, rfl⟩
  change Calls Tryd.prog 49 #[.agg #[.int .u8 a0, .int .u8 a1, .int .u8 a2, .int .u8 a3, .int .u8 a4, .int .u8 a5, .int .u8 a6, .int .u8 a7]] w _
  go_enter Tryd.func49, Tryd.ntmps49
  go_wp2
  have hk := blk_new w (.cells #[.int .u8 a0, .int .u8 a1, .int .u8 a2, .int .u8 a3, .int .u8 a4, .int .u8 a5, .int .u8 a6, .int .u8 a7] 35)
  have HB := Aside0.mk (below_alloc (Below.refl w.heap.size w) (.cells #[.int .u8 a0, .int .u8 a1, .int .u8 a2, .int .u8 a3, .int .u8 a4, .int .u8 a5, .int .u8 a6, .int .u8 a7] 35))
  generalize w.alloc (.cells #[.int .u8 a0, .int .u8 a1, .int .u8 a2, .int .u8 a3, .int .u8 a4, .int .u8 a5, .int .u8 a6, .int .u8 a7] 35) = w1 at HB hk ⊢
  generalize hl : [a0, a1, a2, a3, a4, a5, a6, a7] = l at HL ⊢
  have hag : (#[.int .u8 a0, .int .u8 a1, .int .u8 a2, .int .u8 a3, .int .u8 a4, .int .u8 a5, .int .u8 a6, .int .u8 a7] : Array Value) = (l.map (Value.int .u8)).toArray := by rw [← hl]; rfl
  rw [hag] at hk ⊢
  have HLE := Lib.hid hl
  have HK := Aside0.mk hk
  clear hag hl hk
  go_loopg [3, 4] 8 (fun kq v3 v7 w' => ∃ i : Nat, v7 = .int .i64 i ∧ Aside0 (i ≤ 8 ∧ kq = 8 - i) ∧ Aside0 (Kd.R (Kd.int .u8) 5 w' w.heap.size (fun k => k ≠ w.heap.size) v3 (hexN (l.take i))) ∧ Aside0 (w'.heap[w.heap.size]? = some (.cells (l.map (Value.int .u8)).toArray 35 (0, 0))) ∧ Aside0 (Below w.heap.size w w'))
  case atStart => exact ⟨0, rfl, ⟨by omega, rfl⟩, ⟨Kd.R_nil _ _ _ _ _⟩, HK, HB⟩
  case round =>
    clear HK HB
    obtain ⟨i, rfl, HI, HR, HK, HB⟩ := hrel
    by_cases h : i < 8
    · have d1 : decide ((i : Int) < 8) = true := decide_eq_true (by omega)
      have LIM : Aside0 (((hexN (l.take i)).length + 2) * 1 ≤ 140737488355328) := ⟨by rw [hexN_len, List.length_take]; omega⟩
      have p1 : (0 ≤ (i : Int)) = True := eq_true (by omega)
      have p2 : ((i : Int) < 8) = True := eq_true (by omega)
      have CL0 : ∀ W : World, W.heap[w.heap.size]? = some (.cells (l.map (Value.int .u8)).toArray 35 (0, 0)) → W.cell? ⟨w.heap.size, i, none⟩ = some (.int .u8 (l.getD i 0)) := by
        intro W hW
        rw [blk_cell hW i]
        have hlen : i < l.length := by rw [HL.out.1]; exact h
        simp [List.getElem?_eq_getElem hlen, List.getD_eq_getElem?_getD]
      have hb := HL.out.2 i h
      generalize hbv : l.getD i 0 = b at CL0 hb
      have hcl := CL0 wr HK.out
      have CL := Aside0.mk CL0
      clear CL0
      obtain ⟨hb0, hb1⟩ := hb
      have HBV := Lib.hid hbv
      clear hbv
      go_wp2
      have H1 := Aside0.mk (hex65 (b / 16) (by omega) (by omega))
      have H2 : Aside0 (∀ w : World, Calls Tryd.prog 65 #[.int .u8 (Go.bits .and .u8 b 15)] w fun e w' => e = .returned (.int .u8 (hexD (b % 16))) ∧ w = w') := ⟨by rw [and15 b hb0 hb1]; exact hex65 (b % 16) (by omega) (by omega)⟩
      have FR : Aside0 (∀ k, wr.heap.size ≤ k → k ≠ w.heap.size) := ⟨fun k hk => by have := blk_lt HK.out; omega⟩
      have NB : Aside0 (some w.heap.size ≠ Value.ownBlock u3) := ⟨fun e => HR.out.1 _ e.symm rfl⟩
      have BA : Aside0 (∀ o, Below wr.heap.size wr (wr.drew.alloc o)) := ⟨fun o => below_alloc (below_drew1 (Below.refl _ _)) _⟩
      go_region_held3 (fun W => W.cell? ⟨w.heap.size, i, none⟩ = some (.int .u8 b)) (first | assumption | go_keep) (first
        | ((with_reducible (refine Calls.mono (H1.out _) ?_)); rintro e w' ⟨rfl, rfl⟩)
        | ((with_reducible (refine Calls.mono (H2.out _) ?_)); rintro e w' ⟨rfl, rfl⟩)
        | ((refine Kd.R_append_rows_step (Kd.int .u8) (w0 := w) w.heap.size rfl (.tmp 9) (.tmp 20) 63 5 (.int .u8 0) 1 rfl Tryd.underlying63 info5 rfl (by decide) (by decide) _ (hexN (l.take i)) [hexD (b / 16), hexD (b % 16)] _ 2 2 (fun k => k ≠ w.heap.size) (fun _ => False) rfl rfl (Kd.R_below HR.out (BA.out _)) (two_C _ _ _) (fun _ _ h => h) (fun _ h => h.elim) (fun k hk => FR.out k (Nat.le_trans (below_size (BA.out _)) hk)) (below_step HB.out (BA.out _)) (below_size (below_step HB.out (BA.out _))) LIM.out ?_); intro v1 w8 ho hb hg _; have HO := Aside0.mk ho; have HB8 := Aside0.mk hb; have HK8 := Aside0.mk (blk_grown (blk_below HK.out (BA.out _)) hg NB.out); have hcl8 := CL.out _ HK8.out; clear ho hb hg))
      all_goals
        go_wp2
        go_roundg (8 - (i + 1))
        case measure => have := HI.out; omega
        case rel =>
          refine ⟨i + 1, by first | rfl | (simp; omega) | (unfold wrap64; simp; omega), ⟨by omega, rfl⟩, ⟨?_⟩, HK8, HB8⟩
          rw [hexN_take l i (by rw [HL.out.1]; exact h), HBV.out]
          exact HO.out
    · have hi : i = 8 := by have := HI.out; omega
      subst hi
      have hlt : l.take 8 = l := List.take_of_length_le (by rw [HL.out.1]; decide)
      have hr := HR.out
      rw [hlt] at hr
      obtain ⟨A1, c1, rfl, hle, hC⟩ := Kd.R_reads hr
      have hcv := fun W (hc : Kd.C (Kd.int .u8) W A1 (hexN l).length (hexN l)) => Kd.C_string (c := c1) Tryd.underlying63 Tryd.underlying5 Tryd.underlying9 hc
      have hcv := hcv _ hC
      clear hC hr hle HR hlt
      go_wp2
      go_ret
      exact ⟨by rw [HLE.out]; rfl, HB.out⟩
theorem agg_list8 (x : S35) : agg8 (list8 x) = .agg (cells35 x) := rfl
theorem okL_of {x : S35} (h : ok35 x = true) : okL (list8 x) := by
  obtain ⟨a0, a1, a2, a3, a4, a5, a6, a7⟩ := x
  unfold ok35 at h
  simp only [Bool.and_eq_true, decide_eq_true_eq] at h
  refine ⟨rfl, fun i hi => ?_⟩
  have h8 : i = 0 ∨ i = 1 ∨ i = 2 ∨ i = 3 ∨ i = 4 ∨ i = 5 ∨ i = 6 ∨ i = 7 := by omega
  rcases h8 with rfl | rfl | rfl | rfl | rfl | rfl | rfl | rfl <;> simp [list8] <;> omega
theorem hex_any (x : S35) (hx : ok35 x = true) (w : World) : Calls Tryd.prog 31 #[.agg (cells35 x)] w fun e w' => e = .returned (.string (hexB x)) ∧ Below w.heap.size w w' := hexL_any (list8 x) (okL_of hx) w
theorem rblock_any (x : S35) (hx : ok35 x = true) (w : World) : Calls Tryd.prog 49 #[.agg (cells35 x)] w fun e w' => e = .returned (.string (hexB x)) ∧ Below w.heap.size w w' := rblockL_any (list8 x) (okL_of hx) w
end Go.Proofs.YthbnghdobmghlaaDoor.ST
