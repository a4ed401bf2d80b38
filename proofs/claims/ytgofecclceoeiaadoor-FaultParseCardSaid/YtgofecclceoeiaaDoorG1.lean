/- What the library's contracts ask of the world; the two closures of Parse and the words. -/
import Derived.Test.YtgofecclceoeiaaDoorPFx4
import Derived.Test.YtgofecclceoeiaaDoorShelf
import Derived.Lib.Hide
import Derived.Lib.AppendIntMem
namespace Go.Proofs.YtgofecclceoeiaaDoor.ST
open Go.RowKit Go.Proofs.YtgofecclceoeiaaDoorW.PrintWords Go.Proofs.YtgofecclceoeiaaDoorW.PrintLast Go.Proofs.YtgofecclceoeiaaDoorW.PrintMore Go.Proofs.YtgofecclceoeiaaDoor.PF
set_option linter.unusedVariables false
set_option linter.unusedSimpArgs false

/-- What the library's variables hold. -/
structure Ld (w : World) : Prop where
  tab : Lib.TabIs Tryd.prog w "internal/strconv.uint64pow10" .u64 Lib.pow10Tab
  mx : ∃ m, w.cell? ⟨0, 0, none⟩ = some (.int .i64 m)
  es : ∃ ev, w.cell? ⟨1, 0, none⟩ = some ev ∧ (ev = .nilIface ∨ ∃ te pe, ev = .iface te pe)
  er : ∃ ev, w.cell? ⟨2, 0, none⟩ = some ev ∧ (ev = .nilIface ∨ ∃ te pe, ev = .iface te pe)
theorem Ld.below {w w' : World} (h : Ld w) (hb : Below w.heap.size w w') : Ld w' := by
  have hc : ∀ (p : Addr) v, w.cell? p = some v → w'.cell? p = some v := fun p v e => by
    rw [hb.cell (World.block_lt_of_cell? w p e)]; exact e
  obtain ⟨m, e0⟩ := h.mx
  obtain ⟨v1, e1, k1⟩ := h.es
  obtain ⟨v2, e2, k2⟩ := h.er
  exact ⟨Lib.tabBelow_of_tabIs h.tab w' hb, ⟨m, hc _ _ e0⟩, ⟨v1, hc _ _ e1, k1⟩, ⟨v2, hc _ _ e2, k2⟩⟩

theorem words_any (w : World) : Calls Tryd.prog 22 #[] w fun e w' => e = .returned (.agg #[.string ⟨#[]⟩, .string ⟨#[100, 114, 111, 112]⟩, .string ⟨#[116, 101, 97, 114]⟩, .string ⟨#[115, 116, 114, 97, 121]⟩, .string ⟨#[102, 97, 105, 108]⟩, .string ⟨#[111, 116, 104, 101, 114]⟩, .string ⟨#[115, 108, 111, 119]⟩, .string ⟨#[100, 105, 101]⟩]) ∧ Below w.heap.size w w' := by
  have hu40 := Tryd.underlying40
  go_enter Tryd.func22, Tryd.ntmps22
  go_wp2
  refine bodyPost_ret (v := .agg #[.string ⟨#[]⟩, .string ⟨#[100, 114, 111, 112]⟩, .string ⟨#[116, 101, 97, 114]⟩, .string ⟨#[115, 116, 114, 97, 121]⟩, .string ⟨#[102, 97, 105, 108]⟩, .string ⟨#[111, 116, 104, 101, 114]⟩, .string ⟨#[115, 108, 111, 119]⟩, .string ⟨#[100, 105, 101]⟩]) (by simp [results, Tryd.results22, go_sem, *]) rfl ⟨rfl, ?_⟩
  exact (Below.refl _ _).alloc (Nat.le_refl _) _

/-- word(behind): what stands ahead of it; the rest, and whether all went well, turn. -/
theorem word_any (w : World) (b1 b2 : Nat) (s sep : ByteArray) (o : Bool) (hL : Ld w) (h1 : w.heap[b1]? = some (.cells #[.string s] 9 (0, 0))) (h2 : w.heap[b2]? = some (.cells #[.bool o] 4 (0, 0))) (hs : s.size < 4294967281) :
    Calls Tryd.prog 26 #[.string sep, .pointer (some ⟨b1, 0, none⟩), .pointer (some ⟨b2, 0, none⟩)] w fun e w' => ∃ n, e = .returned (.string ⟨(Lib.cut s.data.toList sep.data.toList).1.toArray⟩) ∧ w' = ((w.drewN n).setCell ⟨b2, 0, none⟩ (.bool (o && (Lib.cut s.data.toList sep.data.toList).2.2))).setCell ⟨b1, 0, none⟩ (.string ⟨(Lib.cut s.data.toList sep.data.toList).2.1.toArray⟩) := by
  obtain ⟨m, hm⟩ := hL.mx
  have hne : b1 ≠ b2 := blk_ne h1 h2 (by decide)
  generalize hc : Lib.cut s.data.toList sep.data.toList = c
  obtain ⟨c1, c2, c3⟩ := c
  have hc1 := (blk_cell h1 0).trans (show _ = some (Value.string s) from rfl)
  have hc2 := (blk_cell h2 0).trans (show _ = some (Value.bool o) from rfl)
  have hf1 := blk_frozen h1 0
  have hf2 := blk_frozen h2 0
  cases o <;> cases c3
  all_goals
    go_enter Tryd.func26, Tryd.ntmps26
    go_wp2_with fail
    refine (Tryd.strings_Cut s sep m _ hs hm).mono ?_
    rw [hc]
    rintro e w1 ⟨rfl, n, rfl⟩
    go_wp2
    go_ret
    exact ⟨n, rfl, rfl⟩
end Go.Proofs.YtgofecclceoeiaaDoor.ST
