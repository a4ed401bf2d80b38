/- The law SumtreeSteps. -/
import Derived.Test.YtpofcknfnipkgaaE4
namespace Go.Proofs.Ytpofcknfnipkgaa.ST
open Go.RowKit Go.Proofs.YtpofcknfnipkgaaW.PrintWords Go.Proofs.YtpofcknfnipkgaaW.PrintLast Go.Proofs.YtpofcknfnipkgaaW.PrintMore Go.Proofs.Ytpofcknfnipkgaa.PS
set_option linter.unusedVariables false
set_option linter.unusedSimpArgs false
/-- The memory of SumtreeSteps: the first tree in g5, the changed one in g6, the changed list kk in block gk. -/
structure Sp (w : World) (l : List Int) (A : Nat → Nat → Nat) (pa : Option Addr) (g5 g6 gk cap : Nat) (W : World) (kk k : List Int) (A' : Nat → Nat → Nat) (pb : Option Addr) : Prop where
  t1 : Tr W l.length (SL l) A (ht l.length)
  t2 : Tr W l.length (SL k) A' (ht l.length)
  h5 : W.heap[g5]? = some (.cells #[.int .i64 l.length, .int .i64 (ht l.length), .pointer pa] 29 (0, 0))
  h6 : W.heap[g6]? = some (.cells #[.int .i64 l.length, .int .i64 (ht l.length), .pointer pb] 29 (0, 0))
  hk : Kd.R (Kd.int .u64) 34 W w.heap.size (fun _ => True) (.slice (some ⟨gk, 0, none⟩) l.length cap) kk
  hb : Below w.heap.size w W
  n6 : w.heap.size ≤ g6
  nk : w.heap.size ≤ gk
  n56 : g5 ≠ g6
  ea : topP l.length A = .pointer pa
  eb : topP l.length A' = .pointer pb
  lk : k.length = l.length
  lkk : kk.length = l.length
section
variable {w W W' : World} {l kk k k2 : List Int} {A A' A2 : Nat → Nat → Nat} {pa pb pb2 : Option Addr} {g5 g6 gk cap : Nat}
theorem Sp.below (h : Sp w l A pa g5 g6 gk cap W kk k A' pb) (hb : Below W.heap.size W W') : Sp w l A pa g5 g6 gk cap W' kk k A' pb :=
  ⟨h.t1.keep (Keeps.below hb), h.t2.keep (Keeps.below hb), blk_below h.h5 hb, blk_below h.h6 hb, Kd.R_below h.hk hb, below_step h.hb hb, h.n6, h.nk, h.n56, h.ea, h.eb, h.lk, h.lkk⟩
theorem Sp.put (h : Sp w l A pa g5 g6 gk cap W kk k A' pb) (i : Nat) (s : Int) : Sp w l A pa g5 g6 gk cap (W.setCell ⟨gk, i, none⟩ (.int .u64 s)) (kk.set i s) k A' pb :=
  ⟨h.t1.keep (Keeps.setR h.hk i _), h.t2.keep (Keeps.setR h.hk i _), blk_setR h.hk h.h5 i _, blk_setR h.hk h.h6 i _, set_row (i := i) h.hk h.lkk.symm s, below_set h.hb h.nk, h.n6, h.nk, h.n56, h.ea, h.eb, h.lk, by rw [List.length_set]; exact h.lkk⟩
theorem Sp.turn (h : Sp w l A pa g5 g6 gk cap W kk k A' pb) (t2' : Tr W l.length (SL k2) A2 (ht l.length)) (e2 : topP l.length A2 = .pointer pb2) (l2 : k2.length = l.length) :
    Sp w l A pa g5 g6 gk cap (((W.setCell ⟨g6, 0, none⟩ (.int .i64 l.length)).setCell ⟨g6, 1, none⟩ (.int .i64 (ht l.length))).setCell ⟨g6, 2, none⟩ (.pointer pb2)) kk k2 A2 pb2 := by
  have a1 := blk_put h.h6 0 (.int .i64 l.length) rfl
  have a2 := blk_put a1 1 (.int .i64 (ht l.length)) rfl
  have a3 := blk_put a2 2 (.pointer pb2) rfl
  have K : Keeps W (((W.setCell ⟨g6, 0, none⟩ (.int .i64 l.length)).setCell ⟨g6, 1, none⟩ (.int .i64 (ht l.length))).setCell ⟨g6, 2, none⟩ (.pointer pb2)) := ((Keeps.set29 h.h6 0 _).trans (Keeps.set29 a1 1 _)).trans (Keeps.set29 a2 2 _)
  have f5 := blk_far (blk_far (blk_far h.h5 (p := ⟨g6, 0, none⟩) h.n56 (.int .i64 l.length)) (p := ⟨g6, 1, none⟩) h.n56 (.int .i64 (ht l.length))) (p := ⟨g6, 2, none⟩) h.n56 (.pointer pb2)
  have r := Kd.R_set (Kd.R_set (Kd.R_set h.hk h.h6 (by decide) 0 (.int .i64 l.length)) a1 (by decide) 1 (.int .i64 (ht l.length))) a2 (by decide) 2 (.pointer pb2)
  exact ⟨h.t1.keep K, t2'.keep K, f5, a3, r, below_set (below_set (below_set h.hb h.n6) h.n6) h.n6, h.n6, h.nk, h.n56, h.ea, e2, l2, h.lkk⟩
end
theorem w64s (i n : Nat) (h : i < n) (hn : n ≤ 140737488355328) : wrap64 ((i : Int) + 1) = ((i + 1 : Nat) : Int) := by
  unfold wrap64; omega
theorem at16 {w : World} {A1 : Option Addr} {at_ : List Int} (h : Kd.C (Kd.int .u16) w A1 at_.length at_) (i : Nat) (hi : i < at_.length) : ∃ ad, A1 = some ad ∧ w.cell? (ad.add i) = some (.int .u16 (at_.getD i 0)) := by
  obtain ⟨ad, he, hc⟩ := Kd.at_int h (i : Int) (by omega) (by omega)
  rw [Int.toNat_natCast] at hc
  exact ⟨ad, he, hc⟩
set_option maxHeartbeats 4000000 in
set_option maxRecDepth 100000 in
theorem steps_in (w : World) (A0 A1 : Option Addr) (c0 c1 : Nat) (l at_ : List Int) (h : Rd w A0 c0 l) (ha : Kd.C (Kd.int .u16) w A1 at_.length at_) (hx : ∀ x ∈ at_, 0 ≤ x ∧ x ≤ 65535) (hl : l.length ≤ 60) (hl0 : 0 < l.length) (hm : at_.length ≤ 30) :
    Calls Try.prog 9 #[.slice A0 l.length c0, .slice A1 at_.length c1] w fun e w' => e = .returned (.bool true) ∧ Below w.heap.size w w' := by
  have d1 : decide ((60 : Int) < (l.length : Int)) = false := decide_eq_false (by omega)
  have d2 : decide (60 < l.length) = false := decide_eq_false (by omega)
  have d3 : decide ((30 : Int) < (at_.length : Int)) = false := decide_eq_false (by omega)
  have d4 : decide (30 < at_.length) = false := decide_eq_false (by omega)
  have d5 : ((l.length : Int) == 0) = false := by rw [beq_eq_false_iff_ne]; omega
  have d6 : (l.length == 0) = false := by rw [beq_eq_false_iff_ne]; omega
  have HR := Aside0.mk h
  have HL := Aside0.mk hl
  have HL0 := Aside0.mk hl0
  have HM := Aside0.mk hm
  have HX := Aside0.mk hx
  have HA := Aside0.mk ha
  clear h hl hl0 hm hx ha
  go_enter Try.func9, Try.ntmps9
  go_wp2_with fail
  refine (awake_any _).mono ?_
  rintro e w1 ⟨rfl, hb⟩
  have HB1 := Aside0.mk hb
  have HR1 := Aside0.mk (HR.out.below hb)
  clear hb
  go_wp2_with fail
  refine (build_any _ l A0 c0 (by have := HL.out; omega) HR1.out.2 HR1.out.1).mono ?_
  rintro e w2 ⟨A, rfl, hT, hb⟩
  have HB2 := Aside0.mk (below_join hb HB1.out)
  have HT2 := Aside0.mk hT
  clear hb HR1 hT HB1
  obtain ⟨pa, hpa⟩ : ∃ pa, topP l.length A = .pointer pa := by unfold topP; split <;> exact ⟨_, rfl⟩
  rw [hpa]
  have Hpa := Lib.hid hpa
  clear hpa
  unfold treeV
  obtain ⟨wb, hwb, hy5, hy6, hb0⟩ := two_new w2 (.cells #[.int .i64 l.length, .int .i64 (ht l.length), .pointer pa] 29) (.cells #[.int .i64 l.length, .int .i64 (ht l.length), .pointer pa] 29)
  have HWB := Lib.hid hwb
  have HY5 := Aside0.mk hy5
  have HY6 := Aside0.mk hy6
  have HT3 := Aside0.mk (HT2.out.keep (Keeps.below hb0))
  have HB3 := Aside0.mk (below_join hb0 HB2.out)
  have HZ := Aside0.mk (below_size HB2.out)
  clear hwb hy5 hy6 hb0 HT2 HB2
  go_wp2_with (first | ((with_reducible refine gate_dst (N := 38) rfl ?_); rw [← HWB.out]; refine Kd.R_lit (Kd.int .u64) w.heap.size 34 ?hg (N := 38) ?hd (xs := ([] : List Int)) (inner := []) (ok := fun _ => True) (okp := fun _ => True) ?hr ?hp (fun _ hk => hk) trivial HB3.out (below_size HB3.out) (by simp) ?_; (case hd => rfl); (case hg => rfl); (case hr => first | (go_simp; done) | (go_simp; rfl)); (case hp => exact (Reps.none _ _)); intro v4 w4 ho hb hg4 hv4; have HO4 := Aside0.mk ho; have HB4 := Aside0.mk hb; have HBW4 := Aside0.mk ((Below.refl wb.heap.size wb).grown hg4 (Nat.le_refl _) (fun k e => by cases e)); have HV4 := Aside0.mk hv4; clear ho hb hg4 hv4) | ((with_reducible refine gate_builtin (b := .append) (xs := #[.tmp 38, .tmp 39]) rfl ?_); at_builtin; refine Kd.R_append_rows (Kd.int .u64) (w0 := w) w.heap.size rfl (.tmp 38) (.tmp 39) 22 34 (.int .u64 0) 8 rfl Try.underlying22 info34 rfl (by decide) (by omega) v4 [] l _ _ _ (fun _ => True) (fun _ => False) rfl rfl ?aO ?aR (fun _ _ h => h) (fun _ h => h.elim) (fun _ _ => trivial) ?aB ?aS ?aL ?_; (case aR => exact (HR.out.below HB4.out).1); (case aB => exact HB4.out); (case aO => exact HO4.out); (case aS => exact below_size HB4.out); (case aL => have := HL.out; simp; omega); intro v5 w5 ho hb hg5 _; rw [List.nil_append] at ho; obtain ⟨gr, cap, hv, hg1, hg2, _⟩ := Kd.R_form ho (by have := HL0.out; omega); subst hv; have HO5 := Aside0.mk ho; have HB5 := Aside0.mk hb; have Hg1 := Aside0.mk hg1; have HBW5 := Aside0.mk (HBW4.out.grown hg5 HBW4.out.size (fun k e => by obtain ⟨b, hb1, hb2⟩ := HV4.out; rw [hb1] at e; cases e; exact hb2)); clear ho hb hg5 hg1 hg2 HO4 HB4 HBW4 HV4) | (fail))
  have SP0 : Sp w l A pa w2.heap.size (w2.heap.size + 1) gr cap w5 l l A pa := ⟨HT3.out.keep (Keeps.below HBW5.out), HT3.out.keep (Keeps.below HBW5.out), blk_below HY5.out HBW5.out, blk_below HY6.out HBW5.out, HO5.out, HB5.out, by have := HZ.out; omega, Hg1.out, by omega, Hpa.out, Hpa.out, rfl, rfl⟩
  have HSP0 := Aside0.mk SP0
  clear SP0 HT3 HBW5 HY5 HY6 HO5 HB5 Hg1 HB3 HZ
  generalize w2.heap.size + 1 = g6 at HSP0 ⊢
  generalize w2.heap.size = g5 at HSP0 ⊢
  go_loopg [8] at_.length (fun kq v8 w' => ∃ i : Nat, v8 = .int .i64 i ∧ Aside0 (i ≤ at_.length ∧ kq = at_.length - i) ∧ Aside0 (∃ k A' pb, Sp w l A pa g5 g6 gr cap w' k k A' pb))
  case atStart => exact ⟨0, rfl, ⟨by omega, rfl⟩, ⟨l, A, pa, HSP0.out⟩⟩
  case round =>
    clear HSP0
    obtain ⟨i, rfl, HI, HSP⟩ := hrel
    obtain ⟨k, A', pb, hsp⟩ := HSP.out
    have HS := Aside0.mk hsp
    clear hsp HSP
    by_cases h : i < at_.length
    · obtain ⟨ad, e1, hcx⟩ := at16 HA.out i h
      cases e1
      have hxx := HX.out (at_[i]) (List.getElem_mem h)
      rw [List.getD_eq_getElem?_getD, List.getElem?_eq_getElem h, Option.getD_some] at hcx
      replace hcx := (HS.out.hb.cell (World.block_lt_of_cell? w _ hcx)).trans hcx
      generalize at_[i] = x at hcx hxx
      obtain ⟨q, hq, hql⟩ : ∃ q : Nat, Int.tmod x (l.length : Int) = (q : Int) ∧ q < l.length := by
        have h0 := HL0.out
        refine ⟨(x % (l.length : Int)).toNat, ?_, ?_⟩
        · rw [Int.tmod_eq_emod_of_nonneg hxx.1]
          have := Int.emod_nonneg x (show (l.length : Int) ≠ 0 by omega)
          omega
        · have h1 := Int.emod_nonneg x (show (l.length : Int) ≠ 0 by omega)
          have h2 := Int.emod_lt_of_pos x (show (0 : Int) < (l.length : Int) by omega)
          omega
      have HXX := Aside0.mk hxx
      have HQL := Aside0.mk hql
      have hkc := (Kd.R_celln (0 : Int) HS.out.hk (q : Int) (by omega) (by omega))
      rw [Int.toNat_natCast] at hkc
      obtain ⟨hkc, hkf⟩ := hkc
      obtain ⟨y, hy⟩ : ∃ y, rdOf (0 : Int) k (q : Int) = y := ⟨_, rfl⟩
      rw [hy] at hkc
      clear hy
      have p1 : (0 ≤ (i : Int)) = True := eq_true (by omega)
      have p2 : ((i : Int) < (at_.length : Int)) = True := eq_true (by omega)
      have p3 : decide ((i : Int) < (at_.length : Int)) = true := decide_eq_true (by omega)
      have p4 : (0 ≤ (q : Int)) = True := eq_true (by omega)
      have p5 : ((q : Int) < (l.length : Int)) = True := eq_true (by omega)
      have p6 : ¬ ((l.length : Int) = 0) := by omega
      have hwx : wrap64 x = x := by unfold wrap64; omega
      clear hxx hql
      go_wp2_with fail
      go_region
      generalize IntKind.u64.wrap (IntKind.u64.wrap (y * 3) + IntKind.u64.wrap x) = v
      have hs1 := (HS.out.put q v).below (below_drew1 (Below.refl _ _))
      generalize (wr.setCell ⟨gr, q, none⟩ (.int .u64 v)).drew = w6 at hs1 ⊢
      have HS1 := Aside0.mk hs1
      clear hs1 hkc hkf hcx HS
      have HSet : Aside0 (∀ W, Below w6.heap.size w6 W → Calls Try.prog 22 #[.agg #[.int .i64 l.length, .int .i64 (ht l.length), .pointer pb], .int .i64 q, .int .u64 v] W fun e W' => ∃ P pc, e = .returned (.tuple #[.agg #[.int .i64 l.length, .int .i64 (ht l.length), .pointer pc], .int .i64 0]) ∧ topP l.length (patch A' P q) = .pointer pc ∧ Tr W' l.length (SL (k.set q v)) (patch A' P q) (ht l.length) ∧ Below W.heap.size W W') := ⟨fun W hW => by
        have hT := (HS1.out.below hW).t2
        rw [← HS1.out.lk] at hT
        have hset := Set_yes W k q v A' hT (by rw [HS1.out.lk]; exact HQL.out) (by rw [HS1.out.lk]; have := HL.out; omega)
        rw [HS1.out.lk, HS1.out.eb] at hset
        refine hset.mono ?_
        rintro e W' ⟨P, rfl, hT', _, hb⟩
        obtain ⟨pc, hpc⟩ := topP_ptr l.length (patch A' P q)
        rw [hpc]
        exact ⟨P, pc, rfl, hpc, hT', hb⟩⟩
      have HSS : Aside0 (∀ W, Below w6.heap.size w6 W → W.cell? ⟨g6, 0, none⟩ = some (.int .i64 l.length) ∧ W.cell? ⟨g6, 1, none⟩ = some (.int .i64 (ht l.length)) ∧ W.cell? ⟨g6, 2, none⟩ = some (.pointer pb) ∧ W.cell? ⟨gr, q, none⟩ = some (.int .u64 v)) := ⟨fun W hW => by
        have hs := HS1.out.below hW
        obtain ⟨z0, z1, z2⟩ := cells3 hs.h6
        have hql := HQL.out
        have hkc := (Kd.R_celln (0 : Int) hs.hk (q : Int) (by omega) (by omega)).1
        rw [Int.toNat_natCast] at hkc
        have e1 : rdOf (0 : Int) (k.set q v) (q : Int) = v := by
          unfold rdOf
          rw [Int.toNat_natCast, List.getD_eq_getElem?_getD, List.getElem?_set_self (by rw [HS1.out.lk]; exact HQL.out)]
          rfl
        rw [e1] at hkc
        exact ⟨z0, z1, z2, hkc⟩⟩
      have hB := Below.refl w6.heap.size w6
      go_wp2_with fail
      go_region_held3 (fun W => W.cell? ⟨g6, 0, none⟩ = some (.int .i64 l.length) ∧ W.cell? ⟨g6, 1, none⟩ = some (.int .i64 (ht l.length)) ∧ W.cell? ⟨g6, 2, none⟩ = some (.pointer pb) ∧ W.cell? ⟨gr, q, none⟩ = some (.int .u64 v)) ((refine HSS.out _ ?_; (repeat (first | exact hB | apply below_drew1 | apply below_alloc | refine below_set ?_ (by simp)))))
        (first
          | (go_at_call 22; with_reducible (refine Calls.mono (HSet.out _ ?_) ?_); (· with_reducible first | exact hB | exact below_drew1 hB | exact below_drew1 (below_alloc hB _)); rintro e wn ⟨P, pc, rfl, hpc, hT, hb⟩; (try (have hq := blk_below (blk_drew (blk_new w6 (.cells #[.int .i64 0, .int .i64 0, .pointer none] 29))) hb; obtain ⟨cc0, cc1, cc2⟩ := cells3 hq; have ff0 := blk_frozen hq 0; have ff1 := blk_frozen hq 1; have ff2 := blk_frozen hq 2; have HQQ := Aside0.mk hq; clear hq)); replace hB := (by with_reducible first | exact below_step hB hb | exact below_step (below_drew1 hB) hb | exact below_step (below_drew1 (below_alloc hB _)) hb : Below w6.heap.size w6 wn)))
      · have HSP := Aside0.mk (HS1.out.below (below_alloc hB (.cells #[.int .i64 l.length, .int .i64 (ht l.length), .pointer pc] 29)))
        have HQ := Aside0.mk (blk_new wn (.cells #[.int .i64 l.length, .int .i64 (ht l.length), .pointer pc] 29))
        have HTT := Aside0.mk (hT.keep (Keeps.below (below_alloc (Below.refl _ _) (.cells #[.int .i64 l.length, .int .i64 (ht l.length), .pointer pc] 29))))
        have HPC := Lib.hid hpc
        have HGT := Aside0.mk (show g6 < wn.heap.size from blk_lt (HS1.out.below hB).h6)
        clear hB hb hpc hT HSS HSet HS1
        generalize wn.alloc (.cells #[.int .i64 l.length, .int .i64 (ht l.length), .pointer pc] 29) = we at HSP HQ HTT ⊢
        generalize wn.heap.size = gt at HQ HGT ⊢
        have hg6 := blk_lt HSP.out.h6
        have hne1 : ¬ (g6 = gt) := by have := HGT.out; omega
        have hne2 : ¬ (gt = g6) := by have := HGT.out; omega
        obtain ⟨u0, u1, u2⟩ := cells3 HSP.out.h6
        have v0 := blk_frozen HSP.out.h6 0
        have v1 := blk_frozen HSP.out.h6 1
        have v2 := blk_frozen HSP.out.h6 2
        obtain ⟨x0, x1, x2⟩ := cells3 HQ.out
        have hturn := HSP.out.turn HTT.out HPC.out (by rw [List.length_set]; exact HSP.out.lk)
        have HTU := Aside0.mk hturn
        have HW64 := Lib.hid (w64s i at_.length h (by have := HM.out; omega))
        clear hturn hg6
        go_wp2
        go_roundg (at_.length - (i + 1))
        case measure => have := HI.out; omega
        case rel => exact ⟨i + 1, by first | rfl | (rw [HW64.out]; done) | simp, ⟨by omega, rfl⟩, ⟨k.set q v, patch A' P q, pc, HTU.out⟩⟩
      · have r1 := blk_put HQQ.out 0 (.int .i64 l.length) rfl
        have r2 := blk_put r1 1 (.int .i64 (ht l.length)) rfl
        have r3 := blk_put r2 2 (.pointer pc) rfl
        have K : Keeps wn (((wn.setCell ⟨w6.heap.size, 0, none⟩ (.int .i64 l.length)).setCell ⟨w6.heap.size, 1, none⟩ (.int .i64 (ht l.length))).setCell ⟨w6.heap.size, 2, none⟩ (.pointer pc)) := ((Keeps.set29 HQQ.out 0 _).trans (Keeps.set29 r1 1 _)).trans (Keeps.set29 r2 2 _)
        have HSP := Aside0.mk (HS1.out.below (below_set (below_set (below_set hB (Nat.le_refl _)) (Nat.le_refl _)) (Nat.le_refl _) : Below w6.heap.size w6 (((wn.setCell ⟨w6.heap.size, 0, none⟩ (.int .i64 l.length)).setCell ⟨w6.heap.size, 1, none⟩ (.int .i64 (ht l.length))).setCell ⟨w6.heap.size, 2, none⟩ (.pointer pc))))
        have HQ := Aside0.mk r3
        have HTT := Aside0.mk (hT.keep K)
        have HPC := Lib.hid hpc
        have HGT := Aside0.mk (show g6 < w6.heap.size from blk_lt HS1.out.h6)
        clear hB hb hpc hT HSS HSet HS1 r1 r2 r3 K cc0 cc1 cc2 ff0 ff1 ff2 HQQ
        generalize (((wn.setCell ⟨w6.heap.size, 0, none⟩ (.int .i64 l.length)).setCell ⟨w6.heap.size, 1, none⟩ (.int .i64 (ht l.length))).setCell ⟨w6.heap.size, 2, none⟩ (.pointer pc)) = we at HSP HQ HTT ⊢
        generalize w6.heap.size = gt at HQ HGT ⊢
        have hg6 := blk_lt HSP.out.h6
        have hne1 : ¬ (g6 = gt) := by have := HGT.out; omega
        have hne2 : ¬ (gt = g6) := by have := HGT.out; omega
        obtain ⟨u0, u1, u2⟩ := cells3 HSP.out.h6
        have v0 := blk_frozen HSP.out.h6 0
        have v1 := blk_frozen HSP.out.h6 1
        have v2 := blk_frozen HSP.out.h6 2
        obtain ⟨x0, x1, x2⟩ := cells3 HQ.out
        have hturn := HSP.out.turn HTT.out HPC.out (by rw [List.length_set]; exact HSP.out.lk)
        have HTU := Aside0.mk hturn
        have HW64 := Lib.hid (w64s i at_.length h (by have := HM.out; omega))
        clear hturn hg6
        go_wp2
        go_roundg (at_.length - (i + 1))
        case measure => have := HI.out; omega
        case rel => exact ⟨i + 1, by first | rfl | (rw [HW64.out]; done) | simp, ⟨by omega, rfl⟩, ⟨k.set q v, patch A' P q, pc, HTU.out⟩⟩
    · have hil : i = at_.length := by have := HI.out; omega
      subst hil
      have p3 : decide ((at_.length : Int) < (at_.length : Int)) = false := decide_eq_false (by omega)
      have hsz5 := cells3 HS.out.h5
      obtain ⟨y0, y1, y2⟩ := hsz5
      obtain ⟨z0, z1, z2⟩ := cells3 HS.out.h6
      have hkl := HS.out.lk
      have HKL := Lib.hid hkl
      have hD := Diff_some wr l.length (SL l) (SL k) A A' HL0.out (by have := HL.out; omega) HS.out.t1 HS.out.t2
      rw [dfl_top l k HL0.out, HS.out.ea, HS.out.eb] at hD
      have HD := Aside0.mk hD
      have hl9 : (diffV l k).length ≤ 100 := by
        unfold diffV
        have := List.length_filter_le (dif (SL l) (SL k) (ht l.length)) (List.range l.length)
        simp at this ⊢
        have := HL.out
        omega
      have HF := Aside0.mk (fun (W : World) (x : Rd W A0 c0 l) (y : Rd W (some ⟨gr, 0, none⟩) cap k) => refdiff_any W A0 (some ⟨gr, 0, none⟩) c0 cap l k x y (by have := HL.out; omega) (by rw [hkl]; have := HL.out; omega))
      have HSK := Aside0.mk (fun (W : World) (t : Tr W l.length (SL k) A' (ht l.length)) (y : Rd W (some ⟨gr, 0, none⟩) cap k) => same_any W (some ⟨gr, 0, none⟩) cap k A' (by rw [hkl]; exact t) y (by rw [hkl]; have := HL.out; omega))
      have HSL := Aside0.mk (fun (W : World) (t : Tr W l.length (SL l) A (ht l.length)) (y : Rd W A0 c0 l) => same_any W A0 c0 l A t y (by have := HL.out; omega))
      rw [hkl, if_pos rfl, if_pos rfl] at HF
      rw [hkl, HS.out.eb] at HSK
      rw [HS.out.ea] at HSL
      generalize diffV l k = dl at HD HF hl9
      clear hkl hD
      go_wp2_with fail
      refine HD.out.mono ?_
      rintro e w4 ⟨B, d, rfl, hv, hb⟩
      have HS4 := Aside0.mk (HS.out.below hb)
      have HV4 := Aside0.mk (Kd.R_reads' hv)
      clear hb hv HD HS y0 y1 y2 z0 z1 z2
      obtain ⟨y0, y1, y2⟩ := cells3 HS4.out.h5
      obtain ⟨z0, z1, z2⟩ := cells3 HS4.out.h6
      go_wp2_with fail
      refine (HF.out w4 (HR.out.below HS4.out.hb) (Rd.of_R HS4.out.hk)).mono ?_
      rintro e w5 ⟨B', d', rfl, hv, hb⟩
      have HS5 := Aside0.mk (HS4.out.below hb)
      have HV5 := Aside0.mk (Kd.C_below HV4.out.2.2 hb)
      have HV5' := Aside0.mk (Kd.R_reads' hv)
      clear hb hv HF HV4 HS4 y0 y1 y2 z0 z1 z2
      obtain ⟨z0, z1, z2⟩ := cells3 HS5.out.h6
      go_wp2_with fail
      refine (HSK.out w5 HS5.out.t2 (Rd.of_R HS5.out.hk)).mono ?_
      rintro e w6 ⟨rfl, hb⟩
      have HS6 := Aside0.mk (HS5.out.below hb)
      have HV6 := Aside0.mk (Kd.C_below HV5.out hb)
      have HV6' := Aside0.mk (Kd.C_below HV5'.out.2.2 hb)
      clear hb HSK HV5 HV5' HS5 z0 z1 z2
      obtain ⟨y0, y1, y2⟩ := cells3 HS6.out.h5
      go_wp2_with fail
      refine (HSL.out w6 HS6.out.t1 (HR.out.below HS6.out.hb)).mono ?_
      rintro e w7 ⟨rfl, hb⟩
      have HB7 := Aside0.mk (below_join hb HS6.out.hb)
      have HV7 := Aside0.mk (Kd.C_below HV6.out hb)
      have HV7' := Aside0.mk (Kd.C_below HV6'.out hb)
      clear hb HSL HV6 HV6' HS6 y0 y1 y2
      go_wp2_with fail
      go_loopw [16] (fun i wr => ∃ j : Nat, j ≤ dl.length ∧ i = .int .i64 j ∧ Aside0 (Below w7.heap.size w7 wr)) (fun i _ => dl.length - (intOf i).toNat)
      case atStart => exact ⟨0, by omega, rfl, ⟨Below.refl _ _⟩⟩
      case round =>
        obtain ⟨j, hj, rfl, HBr⟩ := hrel
        by_cases hlt : j < dl.length
        · have hltI : (j : Int) < (dl.length : Int) := by omega
          have hj0 : (0 : Int) ≤ (j : Int) := by omega
          obtain ⟨ad, rfl, hc⟩ := Kd.at_int (Kd.C_below HV7.out HBr.out) (j : Int) (by omega) hltI
          obtain ⟨ad', rfl, hc'⟩ := Kd.at_int (Kd.C_below HV7'.out HBr.out) (j : Int) (by omega) hltI
          rw [Int.toNat_natCast] at hc hc'
          obtain ⟨x, hx⟩ : ∃ x, rd dl (j : Int) = x := ⟨_, rfl⟩
          rw [hx] at hc hc'
          clear hx
          go_wp2_with fail
          go_quiet (fail)
          go_wp2
          go_roundw
          case rel => exact ⟨j + 1, by omega, by go_num, ⟨pw_below_drewN HBr.out _⟩⟩
          case measure => simp [intOf]; omega
        · have hge : ¬ (j : Int) < (dl.length : Int) := by omega
          go_wp2
          go_ret
          exact ⟨rfl, below_join HBr.out HB7.out⟩
set_option maxHeartbeats 1000000 in
set_option maxRecDepth 100000 in
theorem steps_out (w : World) (A0 A1 : Option Addr) (c0 c1 n m : Nat) (h : 60 < n ∨ n = 0 ∨ 30 < m) : Calls Try.prog 9 #[.slice A0 n c0, .slice A1 m c1] w fun e w' => e = .returned (.bool true) ∧ Below w.heap.size w w' := by
  have fin : ∀ (b1 b2 b3 : Bool), decide ((60 : Int) < (n : Int)) = b1 → decide (60 < n) = b1 → ((n : Int) == 0) = b2 → (n == 0) = b2 → decide ((30 : Int) < (m : Int)) = b3 → decide (30 < m) = b3 → (b1 || b2 || b3) = true → Calls Try.prog 9 #[.slice A0 n c0, .slice A1 m c1] w fun e w' => e = .returned (.bool true) ∧ Below w.heap.size w w' := by
    intro b1 b2 b3 d1 d2 d3 d4 d5 d6 hb
    cases b1 <;> cases b2 <;> cases b3 <;> first | (exact absurd hb (by decide)) | skip
    all_goals
      clear hb h
      go_enter Try.func9, Try.ntmps9
      go_wp2_with fail
      refine (awake_any _).mono ?_
      rintro e w1 ⟨rfl, hb⟩
      have HB1 := Aside0.mk hb
      clear hb
      go_wp2_with fail
      refine (awake_any _).mono ?_
      rintro e w2 ⟨rfl, hb⟩
      have HB2 := Aside0.mk (below_join hb HB1.out)
      clear hb
      go_wp2
      go_ret
      exact ⟨rfl, HB2.out⟩
  refine fin (decide (60 < n)) (n == 0) (decide (30 < m)) ?_ rfl ?_ rfl ?_ rfl ?_
  · simp; omega
  · rw [Bool.eq_iff_iff, beq_iff_eq, beq_iff_eq]; omega
  · simp; omega
  · rcases h with h | h | h
    · rw [decide_eq_true h]; rfl
    · rw [h]; simp
    · rw [decide_eq_true h]; simp
theorem SumtreeSteps_row (a0 : Option Addr) (len0 cap0 : Nat) (z0 : List Int) (a1 : Option Addr) (len1 cap1 : Nat) (z1 : List Int) (w : World) (w0 : IsRow .u64 w a0 len0 cap0 z0) (_y0 : len0 * 8 ≤ 140737488351232) (w1 : IsRow .u16 w a1 len1 cap1 z1) (_y1 : len1 * 2 ≤ 140737488351232) :
    Calls Try.prog 9 #[.slice a0 len0 cap0, .slice a1 len1 cap1] w fun e w' => e = .returned (.bool true) ∧ Below w.heap.size w w' := by
  by_cases h : 60 < len0 ∨ len0 = 0 ∨ 30 < len1
  · exact steps_out w a0 a1 cap0 cap1 len0 len1 h
  · obtain ⟨l, rfl, hl⟩ := w0.rd
    obtain ⟨b, rfl, hr, hm, hw, hc⟩ := ReadsInt.ofRowC w1
    refine steps_in w a0 a1 cap0 cap1 l b hl (Kd.C_of_reads (d := (0 : Int)) (h1 := fun _ => rfl) hr) (fun x hx => ?_) (by omega) (by omega) (by omega)
    simpa [Lit.wf, IntKind.min, IntKind.max, IntKind.signed, IntKind.bits] using hw x hx
end Go.Proofs.Ytpofcknfnipkgaa.ST
