/- Parse and Text of whole lists. -/
import Derived.Test.YtgofecclceoeiaaDoorG8
namespace Go.Proofs.YtgofecclceoeiaaDoor.ST
open Go.RowKit Go.Proofs.YtgofecclceoeiaaDoorW.PrintWords Go.Proofs.YtgofecclceoeiaaDoorW.PrintLast Go.Proofs.YtgofecclceoeiaaDoorW.PrintMore Go.Proofs.YtgofecclceoeiaaDoor.PF
set_option linter.unusedVariables false
set_option linter.unusedSimpArgs false
theorem textL_eq (l : List S32) : textL l = Lib.join (l.map oneL) [59, 32] := rfl
theorem parts_data (s : ByteArray) : (partsB s).map (·.data.toList) = Lib.splitK [59, 32] 0 (Lib.count s.data.toList [59, 32]) s.data.toList := Lib.splitB_data sepB 0 _ s
theorem parts_len (s : ByteArray) : (partsB s).length = Lib.countB s sepB + 1 := by
  have := congrArg List.length (parts_data s)
  rw [List.length_map, split_len [59, 32] (by simp) (s.data.toList.length + 1) _ (by omega)] at this
  exact this
theorem parts_size (s : ByteArray) : ∀ p ∈ partsB s, p.size ≤ s.size := by
  have h : ∀ (k : Nat) (s : List UInt8), ∀ x ∈ Lib.splitK [59, 32] 0 k s, x.length ≤ s.length := by
    intro k
    induction k with
    | zero => intro s x hx; rw [List.mem_singleton.1 hx]; exact Nat.le_refl _
    | succ k ih =>
      intro s x hx
      unfold Lib.splitK at hx
      split at hx
      · rw [List.mem_singleton.1 hx]; exact Nat.le_refl _
      · rcases List.mem_cons.1 hx with rfl | hx
        · rw [List.length_take]; omega
        · have := ih _ x hx; rw [List.length_drop] at this; omega
  intro p hp
  have : p.data.toList ∈ (partsB s).map (·.data.toList) := List.mem_map.2 ⟨p, hp, rfl⟩
  rw [parts_data] at this
  have := h _ _ _ this
  rwa [dsize, dsize] at this
theorem parts_bound (s : ByteArray) : (partsB s).length ≤ s.size + 2 := by
  rw [parts_len]
  have := Lib.count_le s.data.toList [59, 32]
  rw [dsize] at this
  have e : Lib.countB s sepB = Lib.count s.data.toList [59, 32] := rfl
  omega
/-- What Parse gives is a valid list, and its text is the one that was parsed. -/
theorem parse_sound {s : ByteArray} {l : List S32} (h : parseB s = some l) : okAll (-1) l = true ∧ textL l = s.data.toList ∧ ∀ x ∈ l, x.f0 ≤ 9223372036854775807 ∧ x.f2 ≤ 9223372036854775807 := by
  unfold parseB at h
  split at h
  · rename_i h0
    cases h
    rw [ByteArray.toList_eq] at h0
    exact ⟨rfl, h0.symm, fun x hx => by cases hx⟩
  · split at h
    · rename_i h1 h2
      cases h
      refine ⟨h2.2, ?_, ?_⟩
      · rw [textL_eq, List.map_map]
        rw [← join_split [59, 32] (Lib.count s.data.toList [59, 32]) s.data.toList, ← parts_data]
        congr 1
        refine List.map_congr_left fun p hp => ?_
        have hp2 : (readF p).2 = true := List.all_eq_true.1 h2.1 p hp
        obtain ⟨i, hi, he⟩ := List.getElem_of_mem (List.mem_map.2 ⟨p, hp, rfl⟩ : (readF p).1 ∈ (partsB s).map fun p => (readF p).1)
        have := (okAll_get i hi h2.2).2.1
        rw [he] at this
        exact (part_back hp2 this).1
      · intro x hx
        obtain ⟨i, hi, he⟩ := List.getElem_of_mem hx
        have hk := (okAll_get i hi h2.2).2.1
        rw [he] at hk
        obtain ⟨p, hp, rfl⟩ := List.mem_map.1 hx
        exact (part_back (List.all_eq_true.1 h2.1 p hp) hk).2
    · cases h
theorem fine_of {l : List S32} (hv : okAll (-1) l = true) (hw : ∀ x ∈ l, x.f0 ≤ 9223372036854775807 ∧ x.f2 ≤ 9223372036854775807) : ∀ x ∈ l, fine x := by
  intro x hx
  obtain ⟨i, hi, he⟩ := List.getElem_of_mem hx
  have h := okAll_get i hi hv
  rw [he] at h
  have := hw x hx
  exact ⟨h.1, this.1, h.2.1, h.2.2.1, h.2.2.2.1, this.2, h.2.2.2.2⟩
/-- Parse gives back a valid list from its text. -/
theorem parse_text {l : List S32} (hv : okAll (-1) l = true) (hw : ∀ x ∈ l, x.f0 ≤ 9223372036854775807 ∧ x.f2 ≤ 9223372036854775807) : parseB ⟨(textL l).toArray⟩ = some l := by
  have hf := fine_of hv hw
  cases hl : l with
  | nil =>
    unfold parseB
    rw [if_pos (by rw [ByteArray.toList_eq]; rfl)]
  | cons x0 r0 =>
    rw [← hl]
    have hne : l ≠ [] := by rw [hl]; simp
    have hdata : (⟨(textL l).toArray⟩ : ByteArray).data.toList = textL l := by simp
    have hsp := split_join 59 [32] (l.map oneL) (by simpa using hne) (fun y hy => by
      obtain ⟨x, hx, rfl⟩ := List.mem_map.1 hy
      exact (one_clean (hf x hx)).1)
    have hparts : (partsB ⟨(textL l).toArray⟩).map (·.data.toList) = l.map oneL := by
      rw [parts_data, hdata, textL_eq]
      exact hsp.1
    have hread : (partsB ⟨(textL l).toArray⟩).map readF = l.map fun x => (x, true) := by
      have e1 : (partsB ⟨(textL l).toArray⟩).map readF = ((partsB ⟨(textL l).toArray⟩).map (·.data.toList)).map partF := by rw [List.map_map]; rfl
      rw [e1, hparts, List.map_map]
      exact List.map_congr_left fun x hx => part_one (hf x hx)
    have h1 : ((partsB ⟨(textL l).toArray⟩).all fun p => (readF p).2) = true := by
      have e : ((partsB ⟨(textL l).toArray⟩).all fun p => (readF p).2) = (((partsB ⟨(textL l).toArray⟩).map readF).all fun y => y.2) := by rw [List.all_map]; rfl
      rw [e, hread, List.all_map]
      exact List.all_eq_true.2 fun x _ => rfl
    have h2 : ((partsB ⟨(textL l).toArray⟩).map fun p => (readF p).1) = l := by
      have e : ((partsB ⟨(textL l).toArray⟩).map fun p => (readF p).1) = ((partsB ⟨(textL l).toArray⟩).map readF).map (·.1) := by rw [List.map_map]; rfl
      rw [e, hread, List.map_map]
      exact List.map_id l
    have h0 : ¬ (⟨(textL l).toArray⟩ : ByteArray).toList = [] := by
      rw [ByteArray.toList_eq, hdata, textL_eq, hl, List.map_cons, Lib.join_cons]
      intro e
      exact (one_clean (hf x0 (by rw [hl]; exact List.mem_cons_self ..))).2 (List.append_eq_nil_iff.1 e).1
    unfold parseB
    rw [if_neg h0, h2, if_pos ⟨h1, hv⟩]
end Go.Proofs.YtgofecclceoeiaaDoor.ST
