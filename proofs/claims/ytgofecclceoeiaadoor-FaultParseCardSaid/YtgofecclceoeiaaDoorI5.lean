/- The law FaultParse. -/
import Derived.Test.YtgofecclceoeiaaDoorI4
import Derived.Test.YtgofecclceoeiaaDoorI2
namespace Go.Proofs.YtgofecclceoeiaaDoor.ST
open Go.RowKit Go.Proofs.YtgofecclceoeiaaDoorW.PrintWords Go.Proofs.YtgofecclceoeiaaDoorW.PrintLast Go.Proofs.YtgofecclceoeiaaDoorW.PrintMore Go.Proofs.YtgofecclceoeiaaDoor.PF
set_option linter.unusedVariables false
set_option linter.unusedSimpArgs false
/-- tegularef13.Parse gives back a valid list from its text. -/
theorem rparse_valid (l : List S32) (hv : okAll (-1) l = true) (hw : ∀ x ∈ l, x.f0 ≤ 9223372036854775807 ∧ x.f2 ≤ 9223372036854775807) (hl : l.length ≤ 1000) : ∀ (rem done : List S32) (k : Nat), done ++ rem = l → rem.length + l.length + 60 ≤ k →
    tegularef13_Parse.l0 k (str (textL l)) done (str (Lib.join (rem.map oneL) [59, 32])) = some (l, 0)
  | rem, done, 0, _, hk => by omega
  | [], done, k + 1, he, hk => by
    rw [List.append_nil] at he
    subst he
    have h1 := rvalid_l0 done (by omega) k 0 (-1) (by omega) (by omega) (fun _ => rfl) (fun h => by omega)
    have h2 : tegularef13_Valid.f k done = some true := by rw [← hv]; simpa [tegularef13_Valid.f] using h1
    have ht := rtext_f done (by omega) hw k (by omega)
    rw [hv, if_pos rfl] at ht
    rw [List.map_nil, Lib.join_nil]
    simp only [tegularef13_Parse.l0, str_size]
    rw [if_neg (by simp), h2]
    simp only [Option.bind_some]
    rw [if_pos trivial, ht]
    simp only [Option.bind_some]
    rw [if_pos trivial]
  | x :: rem, done, k + 1, he, hk => by
    have hx : x ∈ l := by rw [← he]; simp
    have hf := fine_of hv hw x hx
    have hne := (one_clean hf).2
    have hlen : done.length + (rem.length + 1) = l.length := by rw [← he]; simp
    -- the text: the fault's, and what is left
    obtain ⟨r, hr, hj⟩ : ∃ r, (r = [] ∧ rem = [] ∨ r = [59, 32] ++ Lib.join (rem.map oneL) [59, 32]) ∧ Lib.join ((x :: rem).map oneL) [59, 32] = oneL x ++ r := by
      cases rem with
      | nil => exact ⟨[], .inl ⟨rfl, rfl⟩, by simp [Lib.join_one]⟩
      | cons y t => exact ⟨_, .inr rfl, by rw [List.map_cons, List.map_cons, join_two, List.append_assoc]⟩
    have hpos : 0 < (oneL x ++ r).length := by
      rw [List.length_append]
      have : 0 < (oneL x).length := List.length_pos_iff.2 hne
      omega
    have hrd := read_one hf r (by
      rcases hr with ⟨rfl, _⟩ | rfl
      · exact .inl rfl
      · exact .inr ⟨_, rfl⟩) (x.f1 - 1).toNat 1 k (by omega) (by have := hf.2.2.1; omega) (by have := hf.2.2.1; have := hf.2.2.2.1; simp only [List.length_cons] at hk; omega)
    rw [hj]
    simp only [tegularef13_Parse.l0, str_size]
    rw [if_pos (by omega), show tegularef13_read.f k (str (oneL x ++ r)) = _ from hrd]
    simp only [Option.bind_some]
    rw [if_pos trivial, if_pos (by omega)]
    simp only [Option.bind_some, esep, begins_f, str_size]
    have hk' : rem.length + l.length + 60 ≤ k := by simp only [List.length_cons] at hk; omega
    have he' : (done ++ [(⟨x.f0, x.f1, x.f2⟩ : S32)]) ++ rem = l := by rw [← he]; simp
    rcases hr with ⟨rfl, rfl⟩ | rfl
    · rw [show ([59, 32] : List UInt8).isPrefixOf [] = false from rfl, if_neg (by decide), if_neg (by simp)]
      have := rparse_valid l hv hw hl [] _ k he' hk'
      rw [List.map_nil, Lib.join_nil] at this
      exact this
    · have hq : ([59, 32] : List UInt8).isPrefixOf ([59, 32] ++ Lib.join (rem.map oneL) [59, 32]) = true := by rw [List.isPrefixOf_iff_prefix]; exact List.prefix_append _ _
      have hext := ext_from (([59, 32] : List UInt8) ++ Lib.join (rem.map oneL) [59, 32]) 2
      rw [str_size, show (([59, 32] : List UInt8) ++ Lib.join (rem.map oneL) [59, 32]).drop 2 = Lib.join (rem.map oneL) [59, 32] from rfl] at hext
      rw [hq, if_pos rfl, if_pos (by simp only [List.length_append, List.length_cons, List.length_nil]; omega), hext]
      exact rparse_valid l hv hw hl rem _ k he' hk'
theorem len_le_text (l : List S32) (hf : ∀ x ∈ l, fine x) : l.length ≤ (textL l).length + 1 := by
  rw [textL_eq]
  induction l with
  | nil => simp
  | cons x r ih =>
    have ih' := ih fun y hy => hf y (List.mem_cons_of_mem _ hy)
    have hx : 0 < (oneL x).length := List.length_pos_iff.2 (one_clean (hf x (List.mem_cons_self ..))).2
    cases r with
    | nil => simp
    | cons y t =>
      simp only [List.map_cons] at ih' ⊢
      rw [join_two]
      simp only [List.length_append, List.length_cons, List.length_nil] at ih' ⊢
      omega
/-- Both Parses answer alike. -/
theorem rparse_f (s : ByteArray) (hs : s.size ≤ 200) : ∃ k, tegularef13_Parse.f k s = some ((parseB s).getD [], errOf (parseB s)) := by
  cases hp : parseB s with
  | some l =>
    obtain ⟨hv, ht, hw⟩ := parse_sound hp
    have es : s = str (textL l) := by rw [ht]; exact of_data s
    have hl := len_le_text l (fine_of hv hw)
    have hlt : (textL l).length ≤ 200 := by rw [ht, dsize]; exact hs
    refine ⟨l.length + l.length + 60, ?_⟩
    have := rparse_valid l hv hw (by omega) l [] (l.length + l.length + 60) rfl (Nat.le_refl _)
    unfold tegularef13_Parse.f
    rw [es]
    exact this
  | none =>
    have e : s = str s.data.toList := of_data s
    obtain ⟨r1, r2, h1, h2⟩ := rparse_total s s.data.toList.length s.data.toList [] (2 * s.data.toList.length + 40) (Nat.le_refl _) (by rw [dsize]; simp; omega) (fun x hx => by cases hx) (by simp)
    rw [← e] at h1
    refine ⟨2 * s.data.toList.length + 40, ?_⟩
    unfold tegularef13_Parse.f
    rw [h1]
    rcases h2 with ⟨rfl, hv, ht, hw⟩ | ⟨rfl, rfl⟩
    · exfalso
      have := parse_text hv hw
      rw [ht, ByteArray.toList_eq] at this
      rw [show (⟨s.data.toList.toArray⟩ : ByteArray) = s from (of_data s).symm] at this
      rw [hp] at this
      cases this
    · rfl
set_option maxHeartbeats 1000000 in
set_option maxRecDepth 100000 in
theorem FaultParse_law (w : World) (s : ByteArray) (hL : Ld w) : Calls Tryd.prog 5 #[.string s] w fun e w' => e = .returned (.bool true) ∧ Below w.heap.size w w' := by
  rcases Nat.lt_or_ge 200 s.size with hl | hl
  · have d1 : decide ((200 : Int) < (s.size : Int)) = true := decide_eq_true (by omega)
    have d2 : decide (200 < s.size) = true := decide_eq_true hl
    clear hl
    go_enter Tryd.func5, Tryd.ntmps5
    go_wp2_with fail
    refine (awake_any w hL).mono ?_
    rintro e w1 ⟨rfl, hb⟩
    have HB := Aside0.mk hb
    clear hb
    go_wp2_with fail
    refine (awake_any w1 (hL.below HB.out)).mono ?_
    rintro e w2 ⟨rfl, hb⟩
    replace HB := Aside0.mk (below_step HB.out hb)
    clear hb
    go_wp2
    go_ret
    exact ⟨rfl, HB.out⟩
  · have d1 : decide ((200 : Int) < (s.size : Int)) = false := decide_eq_false (by omega)
    have d2 : decide (200 < s.size) = false := decide_eq_false (by omega)
    obtain ⟨k, hk⟩ := rparse_f s hl
    have HK := Aside0.mk hk
    have HS := Aside0.mk hl
    clear hk hl
    obtain ⟨p, hp⟩ : ∃ p, parseB s = p := ⟨_, rfl⟩
    have HP := Lib.hid hp
    rw [hp] at HK
    have hpl := fun l (h : p = some l) => parse_sound (hp.trans h)
    have HPL := Aside0.mk hpl
    clear hp hpl
    go_enter Tryd.func5, Tryd.ntmps5
    go_wp2_with fail
    refine (awake_any w hL).mono ?_
    rintro e w1 ⟨rfl, hb⟩
    have HB := Aside0.mk hb
    clear hb
    go_wp2_with fail
    have c1 := parse_any w1 s (hL.below HB.out) (by have := HS.out; omega)
    rw [HP.out] at c1
    refine c1.mono ?_
    clear c1
    rintro e w2 ⟨v1, rfl, hR1, hb⟩
    have R1 := Aside0.mk hR1
    replace HB := Aside0.mk (below_step HB.out hb)
    clear hb hR1
    go_wp2_with fail
    refine (tegularef13_Parse.calls k s (p.getD []) (errOf p) w2 HK.out).mono ?_
    rintro e w3 ⟨v2, rfl, hR2, hb⟩
    replace R1 := Aside0.mk (Kd.R_below R1.out hb)
    replace HB := Aside0.mk (below_step HB.out hb)
    obtain ⟨P1, c1, rfl, hle1, hC1⟩ := Kd.R_reads R1.out
    obtain ⟨P2, c2, rfl, hle2, hC2⟩ := Kd.R_reads hR2
    have HC1 := Aside0.mk hC1
    have HC2 := Aside0.mk hC2
    have HE1 := Aside0.mk hle1
    have HE2 := Aside0.mk hle2
    clear hb hR2 R1 hC1 hC2 hle1 hle2
    cases p with
    | none =>
      simp only [Option.getD_none, errOf] at HC1 HC2 HE1 HE2 ⊢
      go_wp2_with fail
      refine (tegularef13_Same.calls 1 P1 c1 [] P2 c2 [] true w3 HC1.out HE1.out HC2.out HE2.out (same_f [] (by decide))).mono ?_
      rintro e w4 ⟨rfl, hd⟩
      replace HB := Aside0.mk (below_step HB.out hd.below)
      clear hd
      go_wp2
      go_ret
      exact ⟨rfl, HB.out⟩
    | some l =>
      obtain ⟨hv, ht, hw⟩ := HPL.out l rfl
      have hl := len_le_text l (fine_of hv hw)
      have hl2 : l.length ≤ 201 := by rw [ht, dsize] at hl; have := HS.out; omega
      have htx : textOf l = s := by
        unfold textOf
        rw [if_pos hv, ht]
        exact (of_data s).symm
      have HTX := Lib.hid htx
      have HL2 := Aside0.mk hl2
      have HW := Aside0.mk hw
      clear hv ht hw hl hl2 htx
      simp only [Option.getD_some, errOf] at HC1 HC2 HE1 HE2 ⊢
      go_wp2_with fail
      refine (tegularef13_Same.calls (l.length + 1) P1 c1 l P2 c2 l true w3 HC1.out HE1.out HC2.out HE2.out (same_f l (by have := HL2.out; omega))).mono ?_
      rintro e w4 ⟨rfl, hd⟩
      replace HC1 := Aside0.mk (Kd.C_below HC1.out hd.below)
      replace HB := Aside0.mk (below_step HB.out hd.below)
      clear hd
      go_wp2_with fail
      have c3 := text_any w4 P1 c1 l HC1.out HE1.out (hL.below HB.out) HW.out (by have := HL2.out; omega)
      rw [HTX.out] at c3
      refine c3.mono ?_
      clear c3
      rintro e w5 ⟨rfl, hb⟩
      replace HB := Aside0.mk (below_step HB.out hb)
      clear hb
      go_wp2
      go_ret
      exact ⟨by first | rfl | simp, HB.out⟩
end Go.Proofs.YtgofecclceoeiaaDoor.ST
