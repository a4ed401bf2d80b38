import Derived.Test.YthbnghdobmghlaaDoorVJ4
import Derived.Laws.Closers25b
namespace Go.Proofs.YthbnghdobmghlaaDoor.ST
open Go.RowKit Go.Proofs.YthbnghdobmghlaaDoorW.PrintWords Go.Proofs.YthbnghdobmghlaaDoorW.PrintLast Go.Proofs.YthbnghdobmghlaaDoorW.PrintMore Go.Proofs.YthbnghdobmghlaaDoor.PC
set_option linter.unusedVariables false
set_option linter.unusedSimpArgs false
def low (n : Int) : Int := Go.bits .or .u8 n 32
def hexV (n : Int) : Option Int := if 48 ≤ n ∧ n ≤ 57 then some (n - 48) else if 97 ≤ low n ∧ low n ≤ 102 then some (low n - 87) else none
def hexs (acc : Int) : List Int → Option Int
  | [] => some acc
  | c :: r => match hexV c with
    | none => none
    | some d => hexs (acc * 16 + d) r
theorem hexV_bd {n d : Int} (h : hexV n = some d) : 0 ≤ d ∧ d ≤ 15 := by
  unfold hexV at h
  split at h
  · cases h; omega
  · split at h
    · cases h; omega
    · cases h
def uintT (o : Option Int) : Value := match o with
  | some n => .tuple #[.int .u64 n, .nilIface]
  | none => .tuple #[.int .u64 0, .iface 86 (.int .i64 2)]
theorem lower_v (c v : Int) (h : low c = v) (w : World) : Calls Tryd.prog 75 #[.int .u8 c] w fun e w' => e = .returned (.int .u8 v) ∧ w = w' := by
  refine (Tryd.internal_strconv_lower c w).mono ?_
  rintro e w' ⟨rfl, rfl⟩
  exact ⟨by rw [← h]; rfl, rfl⟩
def bytesI (t : ByteArray) : List Int := t.data.toList.map fun b => (b.toNat : Int)
set_option maxHeartbeats 32000000 in
set_option maxRecDepth 100000 in
theorem uint53 (t : ByteArray) (ht : t.size = 2) (w : World) :
    Calls Tryd.prog 53 #[.string t, .int .i64 16, .int .i64 8] w fun e w' => e = .returned (uintT (hexs 0 (bytesI t))) ∧ Below w.heap.size w w' := by
  have hemp : t.toList.isEmpty = false := by
    rw [← decide_eq_emptyBytes]
    exact decide_eq_false (fun h => by rw [h] at ht; cases ht)
  have hcv := Lib.run_convert_string_bytes (P := Tryd.prog) w 9 63 5 t (u := .string) Tryd.underlying9 Tryd.underlying63 Tryd.underlying5
  have hB : ∀ j, j < t.size → (Lib.bytesWorld w 5 t).cell? ⟨w.heap.size, j, none⟩ = some (.int .u8 (t.data.toList.getD j 0).toNat) := fun j hj => Lib.bytesWorld_cell w 5 t j hj
  have hBl := Lib.bytesWorld_below w 5 t
  obtain ⟨W1, hW1⟩ : ∃ W1, W1 = Lib.bytesWorld w 5 t := ⟨_, rfl⟩
  rw [← hW1] at hcv hB hBl
  clear hW1
  have hlen : t.data.toList.length = 2 := by rw [Array.length_toList]; exact ht
  obtain ⟨b0, b1, hbs⟩ : ∃ b0 b1, t.data.toList = [b0, b1] := by
    match h : t.data.toList with
    | [] => rw [h] at hlen; cases hlen
    | [_] => rw [h] at hlen; cases hlen
    | [b0, b1] => exact ⟨b0, b1, rfl⟩
    | _ :: _ :: _ :: _ => rw [h] at hlen; simp at hlen
  have hc0 := hB 0 (by omega)
  have hc1 := hB 1 (by omega)
  rw [hbs] at hc0 hc1
  have hl : bytesI t = [(b0.toNat : Int), (b1.toNat : Int)] := by unfold bytesI; rw [hbs]; rfl
  rw [hl]
  have q0 : 0 ≤ (b0.toNat : Int) ∧ (b0.toNat : Int) ≤ 255 := by have := b0.toNat_lt; omega
  have q1 : 0 ≤ (b1.toNat : Int) ∧ (b1.toNat : Int) ≤ 255 := by have := b1.toNat_lt; omega
  replace hc0 : W1.cell? ⟨w.heap.size, 0, none⟩ = some (.int .u8 (b0.toNat : Int)) := hc0
  replace hc1 : W1.cell? ⟨w.heap.size, 1, none⟩ = some (.int .u8 (b1.toNat : Int)) := hc1
  generalize (b0.toNat : Int) = c0 at *
  generalize (b1.toNat : Int) = c1 at *
  have hcs : ∀ k : Nat, k < 2 → ∃ c, [c0, c1].drop k = c :: [c0, c1].drop (k + 1) ∧ W1.cell? ⟨w.heap.size, k, none⟩ = some (.int .u8 c) ∧ 0 ≤ c ∧ c ≤ 255 := by
    intro k hk
    rcases (by omega : k = 0 ∨ k = 1) with rfl | rfl
    · exact ⟨c0, rfl, hc0, q0⟩
    · exact ⟨c1, rfl, hc1, q1⟩
  rw [ht] at hcv
  have HCS := Aside0.mk hcs
  have HBL := Aside0.mk hBl
  have HT := Lib.hid ht
  have hsz : (t.size : Int) = 2 := by omega
  clear hc0 hc1 hcs hB hBl ht hl hbs hlen q0 q1
  go_enter Tryd.func53, Tryd.ntmps53
  go_wp2
  go_loopg [12, 13, 101] 2 (fun kq vu vn vi => fun w' => ∃ (k : Nat) (a : Int), vu = .bool false ∧ vn = .int .u64 a ∧ vi = .int .i64 k ∧ Aside0 (k ≤ 2 ∧ kq = 2 - k) ∧ Aside0 (0 ≤ a ∧ (k = 0 → a = 0) ∧ (k ≤ 1 → a ≤ 15) ∧ a ≤ 255) ∧ Aside0 (hexs 0 [c0, c1] = hexs a ([c0, c1].drop k)) ∧ Aside0 (w' = W1))
  case atStart => exact ⟨0, 0, rfl, rfl, rfl, ⟨by omega, rfl⟩, ⟨by omega, fun _ => rfl, fun _ => by omega, by omega⟩, ⟨rfl⟩, ⟨rfl⟩⟩
  case round =>
    obtain ⟨k, a, rfl, rfl, rfl, HK, HA, HH, HW⟩ := hrel
    obtain rfl := HW.out
    by_cases h : k < 2
    · obtain ⟨c, hd, hc, hc0, hc1⟩ := HCS.out k h
      have d1 : decide ((k : Int) < 2) = true := decide_eq_true (by omega)
      have p1 : (0 ≤ (k : Int)) = True := eq_true (by omega)
      have p2 : ((k : Int) < 2) = True := eq_true (by omega)
      have ha0 := HA.out.1
      have ha1 := HA.out.2.2.1 (by omega)
      have e0 : hexs a (c :: [c0, c1].drop (k + 1)) = match hexV c with | none => none | some d => hexs (a * 16 + d) ([c0, c1].drop (k + 1)) := rfl
      by_cases hdig : 48 ≤ c ∧ c ≤ 57
      · have hv : hexV c = some (c - 48) := by unfold hexV; rw [if_pos hdig]
        have HN : Hid (hexs a ([c0, c1].drop k) = hexs (a * 16 + (c - 48)) ([c0, c1].drop (k + 1))) := Lib.hid (by rw [hd, e0, hv])
        obtain ⟨g0, g1⟩ := hdig
        have t95 : (c == 95) = false := beq_eq_false_iff_ne.2 (by omega)
        have u0 : decide (48 ≤ c) = true := decide_eq_true g0
        have u1 : decide (c ≤ 57) = true := decide_eq_true g1
        clear hv e0 hd
        go_wp2_with fail
        go_roundg (2 - (k + 1))
        case measure => have := HK.out; omega
        case rel => exact ⟨k + 1, a * 16 + (c - 48), rfl, by first | rfl | (congr 1; omega), by first | rfl | (simp; omega) | (unfold wrap64; simp; omega), ⟨by omega, rfl⟩, ⟨by omega, fun h => by omega, fun h => by have h0 := HA.out.2.1 (by omega); omega, by have h1 := HA.out.2.2.1 (by omega); omega⟩, ⟨by rw [HH.out]; exact HN.out⟩, ⟨rfl⟩⟩
      · generalize hlv : low c = v
        have HLOW := Aside0.mk (lower_v c v hlv)
        have e95 : (c == 95) = true → v = 127 := fun e => by rw [← hlv, beq_iff_eq.1 e]; decide
        by_cases hv97 : 97 ≤ v
        · by_cases hv102 : v ≤ 102
          · have hv : hexV c = some (v - 87) := by unfold hexV; rw [if_neg hdig, hlv, if_pos ⟨hv97, hv102⟩]
            have HN : Hid (hexs a ([c0, c1].drop k) = hexs (a * 16 + (v - 87)) ([c0, c1].drop (k + 1))) := Lib.hid (by rw [hd, e0, hv])
            have t95 : (c == 95) = false := by
              cases q : c == 95
              · rfl
              · have := e95 q; omega
            have u2 : decide (97 ≤ v) = true := decide_eq_true hv97
            have u3 : decide (v ≤ 122) = true := decide_eq_true (by omega)
            have u01 : (decide (48 ≤ c) && decide (c ≤ 57)) = false := by simpa using hdig
            clear hv e0 hd hlv e95
            by_cases g0 : 48 ≤ c
            · have u0 : decide (48 ≤ c) = true := decide_eq_true g0
              have u1 : decide (c ≤ 57) = false := decide_eq_false (fun g1 => hdig ⟨g0, g1⟩)
              clear u01 hdig
              go_wp2_with (first | ((with_reducible (refine Calls.mono (HLOW.out _) ?_)); rintro e w' ⟨rfl, rfl⟩))
              go_roundg (2 - (k + 1))
              case measure => have := HK.out; omega
              case rel => exact ⟨k + 1, a * 16 + (v - 87), rfl, by first | rfl | (congr 1; omega), by first | rfl | (simp; omega) | (unfold wrap64; simp; omega), ⟨by omega, rfl⟩, ⟨by omega, fun h => by omega, fun h => by have h0 := HA.out.2.1 (by omega); omega, by have h1 := HA.out.2.2.1 (by omega); omega⟩, ⟨by rw [HH.out]; exact HN.out⟩, ⟨rfl⟩⟩
            · have u0 : decide (48 ≤ c) = false := decide_eq_false g0
              clear u01 hdig
              go_wp2_with (first | ((with_reducible (refine Calls.mono (HLOW.out _) ?_)); rintro e w' ⟨rfl, rfl⟩))
              go_roundg (2 - (k + 1))
              case measure => have := HK.out; omega
              case rel => exact ⟨k + 1, a * 16 + (v - 87), rfl, by first | rfl | (congr 1; omega), by first | rfl | (simp; omega) | (unfold wrap64; simp; omega), ⟨by omega, rfl⟩, ⟨by omega, fun h => by omega, fun h => by have h0 := HA.out.2.1 (by omega); omega, by have h1 := HA.out.2.2.1 (by omega); omega⟩, ⟨by rw [HH.out]; exact HN.out⟩, ⟨rfl⟩⟩
          · by_cases hv122 : v ≤ 122
            · have HE : Aside0 (hexs 0 [c0, c1] = none) := ⟨by rw [HH.out, hd, e0]; unfold hexV; rw [if_neg hdig, hlv, if_neg (by omega)]⟩
              have u2 : decide (97 ≤ v) = true := decide_eq_true hv97
              have u3 : decide (v ≤ 122) = true := decide_eq_true hv122
              by_cases g0 : 48 ≤ c
              · have t95 : (c == 95) = false := by
                  cases q : c == 95
                  · rfl
                  · have := e95 q; omega
                have u0 : decide (48 ≤ c) = true := decide_eq_true g0
                have u1 : decide (c ≤ 57) = false := decide_eq_false (fun g1 => hdig ⟨g0, g1⟩)
                clear e0 hd hlv e95 hdig
                go_wp2_with (first | ((with_reducible (refine Calls.mono (HLOW.out _) ?_)); rintro e w' ⟨rfl, rfl⟩))
                go_ret2
                exact ⟨by rw [HE.out]; rfl, HBL.out⟩
              · have t95 : (c == 95) = false := by
                  cases q : c == 95
                  · rfl
                  · have := e95 q; omega
                have u0 : decide (48 ≤ c) = false := decide_eq_false g0
                clear e0 hd hlv e95 hdig
                go_wp2_with (first | ((with_reducible (refine Calls.mono (HLOW.out _) ?_)); rintro e w' ⟨rfl, rfl⟩))
                go_ret2
                exact ⟨by rw [HE.out]; rfl, HBL.out⟩
            · have HE : Aside0 (hexs 0 [c0, c1] = none) := ⟨by rw [HH.out, hd, e0]; unfold hexV; rw [if_neg hdig, hlv, if_neg (by omega)]⟩
              have u2 : decide (97 ≤ v) = true := decide_eq_true hv97
              have u3 : decide (v ≤ 122) = false := decide_eq_false hv122
              cases t95 : c == 95
              · by_cases g0 : 48 ≤ c
                · have u0 : decide (48 ≤ c) = true := decide_eq_true g0
                  have u1 : decide (c ≤ 57) = false := decide_eq_false (fun g1 => hdig ⟨g0, g1⟩)
                  clear e0 hd hlv e95 hdig
                  go_wp2_with (first | ((with_reducible (refine Calls.mono (HLOW.out _) ?_)); rintro e w' ⟨rfl, rfl⟩))
                  go_ret2
                  exact ⟨by rw [HE.out]; rfl, HBL.out⟩
                · have u0 : decide (48 ≤ c) = false := decide_eq_false g0
                  clear e0 hd hlv e95 hdig
                  go_wp2_with (first | ((with_reducible (refine Calls.mono (HLOW.out _) ?_)); rintro e w' ⟨rfl, rfl⟩))
                  go_ret2
                  exact ⟨by rw [HE.out]; rfl, HBL.out⟩
              · by_cases g0 : 48 ≤ c
                · have u0 : decide (48 ≤ c) = true := decide_eq_true g0
                  have u1 : decide (c ≤ 57) = false := decide_eq_false (fun g1 => hdig ⟨g0, g1⟩)
                  clear e0 hd hlv e95 hdig
                  go_wp2_with (first | ((with_reducible (refine Calls.mono (HLOW.out _) ?_)); rintro e w' ⟨rfl, rfl⟩))
                  go_ret2
                  exact ⟨by rw [HE.out]; rfl, HBL.out⟩
                · have u0 : decide (48 ≤ c) = false := decide_eq_false g0
                  clear e0 hd hlv e95 hdig
                  go_wp2_with (first | ((with_reducible (refine Calls.mono (HLOW.out _) ?_)); rintro e w' ⟨rfl, rfl⟩))
                  go_ret2
                  exact ⟨by rw [HE.out]; rfl, HBL.out⟩
        · have HE : Aside0 (hexs 0 [c0, c1] = none) := ⟨by rw [HH.out, hd, e0]; unfold hexV; rw [if_neg hdig, hlv, if_neg (by omega)]⟩
          have u2 : decide (97 ≤ v) = false := decide_eq_false hv97
          by_cases g0 : 48 ≤ c
          · have t95 : (c == 95) = false := by
              cases q : c == 95
              · rfl
              · have := e95 q; omega
            have u0 : decide (48 ≤ c) = true := decide_eq_true g0
            have u1 : decide (c ≤ 57) = false := decide_eq_false (fun g1 => hdig ⟨g0, g1⟩)
            clear e0 hd hlv e95 hdig
            go_wp2_with (first | ((with_reducible (refine Calls.mono (HLOW.out _) ?_)); rintro e w' ⟨rfl, rfl⟩))
            go_ret2
            exact ⟨by rw [HE.out]; rfl, HBL.out⟩
          · have t95 : (c == 95) = false := by
              cases q : c == 95
              · rfl
              · have := e95 q; omega
            have u0 : decide (48 ≤ c) = false := decide_eq_false g0
            clear e0 hd hlv e95 hdig
            go_wp2_with (first | ((with_reducible (refine Calls.mono (HLOW.out _) ?_)); rintro e w' ⟨rfl, rfl⟩))
            go_ret2
            exact ⟨by rw [HE.out]; rfl, HBL.out⟩
    · have hk : k = 2 := by have := HK.out; omega
      subst hk
      have HE : Aside0 (hexs 0 [c0, c1] = some a) := ⟨by rw [HH.out]; rfl⟩
      go_wp2
      go_ret2
      exact ⟨by rw [HE.out]; rfl, HBL.out⟩
end Go.Proofs.YthbnghdobmghlaaDoor.ST
