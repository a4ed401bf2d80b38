import Derived.Test.YthbnghdobmghlaaDoorVJ8
namespace Go.Proofs.YthbnghdobmghlaaDoor.ST
open Go.RowKit Go.Proofs.YthbnghdobmghlaaDoorW.PrintWords Go.Proofs.YthbnghdobmghlaaDoorW.PrintLast Go.Proofs.YthbnghdobmghlaaDoorW.PrintMore Go.Proofs.YthbnghdobmghlaaDoor.PC
set_option linter.unusedVariables false
set_option linter.unusedSimpArgs false
def mkB (l : List UInt8) : ByteArray := ⟨l.toArray⟩
theorem mkB_of (b : ByteArray) : mkB b.data.toList = b := rfl
def spl (l : List UInt8) : List (List UInt8) := Lib.splitK [32] 0 (Lib.count l [32]) l
def splB (s : ByteArray) : List ByteArray := (spl s.data.toList).map mkB
def spB : ByteArray := ⟨#[32]⟩
theorem splitB_eq (s : ByteArray) : Lib.splitB spB 0 (Lib.countB s spB) s = splB s := by
  unfold splB spl
  have h := Lib.splitB_data spB 0 (Lib.countB s spB) s
  have h2 : (Lib.splitB spB 0 (Lib.countB s spB) s).map (fun x => mkB x.data.toList) = Lib.splitB spB 0 (Lib.countB s spB) s := List.map_id'' (fun x => mkB_of x) _
  rw [← h2]
  have h3 : (Lib.splitB spB 0 (Lib.countB s spB) s).map (fun x => mkB x.data.toList) = ((Lib.splitB spB 0 (Lib.countB s spB) s).map (·.data.toList)).map mkB := by rw [List.map_map]; rfl
  rw [h3, h]
  rfl
theorem split_len (sep : List UInt8) (hs : sep ≠ []) : ∀ (n : Nat) (s : List UInt8), s.length < n → (Lib.splitK sep 0 (Lib.count s sep) s).length = Lib.count s sep + 1
  | 0, s, h => by omega
  | n + 1, s, h => by
    by_cases hi : (Lib.index s sep == -1) = true
    · have e : Lib.count s sep = 0 := by
        unfold Lib.count Lib.countFrom
        rw [if_pos hi]
      rw [e]; rfl
    · have h0 : 0 ≤ Lib.index s sep := by
        have := Lib.index_ge s sep
        have : Lib.index s sep ≠ -1 := fun e => hi (by rw [e]; rfl)
        omega
      have hd := Lib.drop_shorter hs hi
      have hc := Lib.count_hit (s := s) (sub := sep) (i := (Lib.index s sep).toNat) hs (by omega)
      rw [hc, Nat.add_comm 1]
      unfold Lib.splitK
      rw [if_neg hi, List.length_cons, split_len sep hs n _ (by omega)]
theorem spl_len (s : ByteArray) : Lib.countB s spB + 1 = (splB s).length := by
  unfold splB spl
  rw [List.length_map, split_len [32] (by decide) _ _ (Nat.lt_succ_self _)]
  rfl
theorem spl_pos (s : ByteArray) : 1 ≤ (splB s).length := by rw [← spl_len]; omega
theorem splitK_bd (sep : List UInt8) (hs : sep ≠ []) : ∀ (k : Nat) (s : List UInt8), (Lib.splitK sep 0 k s).length ≤ s.length + 1
  | 0, s => by simp [Lib.splitK]
  | k + 1, s => by
    unfold Lib.splitK
    split
    · simp
    · rename_i hi
      have hd := Lib.drop_shorter hs hi
      have := splitK_bd sep hs k (s.drop ((Lib.index s sep).toNat + sep.length))
      simp only [List.length_cons]
      omega
theorem spl_bd (s : ByteArray) (hs : s.size < 4294967281) : (splB s).length ≤ 4294967290 := by
  unfold splB spl
  rw [List.length_map]
  have := splitK_bd [32] (by decide) (Lib.count s.data.toList [32]) s.data.toList
  have e : s.data.toList.length = s.size := by rw [Array.length_toList]; rfl
  omega
def cutW (s : ByteArray) (f : Bool) (o : Int) : List ByteArray :=
  let w1 := if o = 1 then (splB s).dropLast else splB s
  if f = true then w1.dropLast else w1
def tryC (c : Cmd) (s : ByteArray) (f : Bool) (o : Int) : Cmd :=
  { c with force := f, order := o,
           vol := if 2 < (cutW s f o).length then (cutW s f o).getD 2 ⟨#[]⟩ else c.vol,
           other := if c.kind = 6 ∧ 3 < (cutW s f o).length then (cutW s f o).getD 3 ⟨#[]⟩ else c.other }
def hitC (c : Cmd) (n : Nat) (s : ByteArray) (f : Bool) (o : Int) : Bool := decide (0 < n) && (!s.toList.isEmpty && ((mkB (textC (tryC c s f o))).toList == s.toList))
def zeroC : Cmd := ⟨0, 0, 0, false, ⟨#[]⟩, ⟨#[]⟩, 0, 0, []⟩
def twinC (c : Cmd) (n : Nat) (s : ByteArray) : Cmd × Int :=
  if hitC c n s false 0 = true then (tryC c s false 0, 0)
  else if hitC c n s false 1 = true then (tryC c s false 1, 0)
  else if hitC c n s true 0 = true then (tryC c s true 0, 0)
  else if hitC c n s true 1 = true then (tryC c s true 1, 0)
  else (zeroC, 4)
structure Tw (w : World) (g3 g6 : Nat) (c : Cmd) (v : Value) (W : World) : Prop where
  h3 : W.heap[g3]? = some (.cells (cmdA c v) 24 (0, 0))
  h6 : W.heap[g6]? = some (.cells (cmdA zeroC (.slice none 0 0)) 24 (0, 0))
  hb : Below w.heap.size w W
  n6 : w.heap.size ≤ g6
theorem Tw.below {w W W' : World} {g3 g6 : Nat} {c : Cmd} {v : Value} (h : Tw w g3 g6 c v W) (hb : Below W.heap.size W W') : Tw w g3 g6 c v W' :=
  ⟨blk_below h.h3 hb, blk_below h.h6 hb, below_step h.hb hb, h.n6⟩
theorem Tw.set {w W : World} {g3 g6 g : Nat} {c : Cmd} {v : Value} (h : Tw w g3 g6 c v W) (n3 : g3 ≠ g) (n6 : g6 ≠ g) (hg : w.heap.size ≤ g) (i : Nat) (u : Value) : Tw w g3 g6 c v (W.setCell ⟨g, i, none⟩ u) :=
  ⟨blk_far h.h3 (p := ⟨g, i, none⟩) n3 u, blk_far h.h6 (p := ⟨g, i, none⟩) n6 u, below_set h.hb hg, h.n6⟩
theorem Tw.far24 {w W : World} {g3 g6 g : Nat} {c : Cmd} {v : Value} (h : Tw w g3 g6 c v W) (n3 : g3 ≠ g) (n6 : g6 ≠ g) (hg : w.heap.size ≤ g) (x0 x1 x2 x3 x4 x5 x6 x7 x8 : Value) :
    Tw w g3 g6 c v (((((((((W.setCell ⟨g, 0, none⟩ x0).setCell ⟨g, 1, none⟩ x1).setCell ⟨g, 2, none⟩ x2).setCell ⟨g, 3, none⟩ x3).setCell ⟨g, 4, none⟩ x4).setCell ⟨g, 5, none⟩ x5).setCell ⟨g, 6, none⟩ x6).setCell ⟨g, 7, none⟩ x7).setCell ⟨g, 8, none⟩ x8) :=
  ((((((((h.set n3 n6 hg 0 x0).set n3 n6 hg 1 x1).set n3 n6 hg 2 x2).set n3 n6 hg 3 x3).set n3 n6 hg 4 x4).set n3 n6 hg 5 x5).set n3 n6 hg 6 x6).set n3 n6 hg 7 x7).set n3 n6 hg 8 x8
def SpW (W' : World) (l : List ByteArray) (g : Nat) : Prop := W'.heap[g]? = some (.cells (l.map Value.string).toArray 9 (0, 0))
theorem Split_any (s : ByteArray) (w : World) (hL : Ld w) (hs : s.size < 4294967281) :
    Calls Tryd.prog 42 #[.string s, .string ⟨#[32]⟩] w fun e w' => e = .returned (.slice (some ⟨w.heap.size, 0, none⟩) (splB s).length (splB s).length) ∧ SpW w' (splB s) w.heap.size ∧ Below w.heap.size w w' := by
  obtain ⟨m, hm⟩ := hL.mx
  refine (Tryd.strings_Split s ⟨#[32]⟩ m _ hs hm (by decide)).mono ?_
  rintro e w1 ⟨rfl, rfl⟩
  have e2 := splitB_eq s
  unfold spB at e2
  rw [e2]
  have e3 : Lib.countB s ⟨#[32]⟩ + 1 = (splB s).length := spl_len s
  rw [e3]
  exact ⟨rfl, blk_new _ _, below_allocs _ _⟩
theorem SpW.at {W : World} {l : List ByteArray} {g : Nat} (h : SpW W l g) (i : Nat) (hi : i < l.length) : W.cell? ⟨g, i, none⟩ = some (.string (l.getD i ⟨#[]⟩)) := by
  rw [blk_cell h i]
  simp [List.getElem?_eq_getElem hi, List.getD_eq_getElem?_getD]
theorem cutW_take (s : ByteArray) (f : Bool) (j : Nat) (hj : j < 2) {n0 m1 m2 : Nat} (hn : (splB s).length = n0) (h1 : m1 = if j = 1 then n0 - 1 else n0) (h2 : m2 = if f = true then m1 - 1 else m1) : cutW s f j = (splB s).take m2 ∧ m2 ≤ n0 := by
  unfold cutW
  rcases (by omega : j = 0 ∨ j = 1) with rfl | rfl
  · have e1 : m1 = n0 := by rw [h1]; rfl
    cases f
    · have e2 : m2 = n0 := by rw [h2, e1]; rfl
      refine ⟨?_, by omega⟩
      rw [e2, ← hn]
      simp
    · have e2 : m2 = n0 - 1 := by rw [h2, e1]; rfl
      refine ⟨?_, by omega⟩
      rw [e2, ← hn]
      simp [List.dropLast_eq_take]
  · have e1 : m1 = n0 - 1 := by rw [h1]; rfl
    cases f
    · have e2 : m2 = n0 - 1 := by rw [h2, e1]; rfl
      refine ⟨?_, by omega⟩
      rw [e2, ← hn]
      simp [List.dropLast_eq_take]
    · have e2 : m2 = n0 - 1 - 1 := by rw [h2, e1]; rfl
      refine ⟨?_, by omega⟩
      rw [e2, ← hn]
      simp [List.dropLast_eq_take, List.take_take]
theorem try_eq {s : ByteArray} {f : Bool} {j m2 n0 : Nat} (c : Cmd) (h1 : cutW s f j = (splB s).take m2) (h2 : m2 ≤ n0) {vol2 oth2 : ByteArray} (hv : vol2 = if 2 < m2 then (splB s).getD 2 ⟨#[]⟩ else c.vol) (ho : oth2 = if c.kind = 6 ∧ 3 < m2 then (splB s).getD 3 ⟨#[]⟩ else c.other) (hn : (splB s).length = n0) :
    tryC c s f j = ⟨c.tag, c.kind, j, f, vol2, oth2, c.pos, c.len, c.data⟩ := by
  have hl : (cutW s f j).length = m2 := by rw [h1, List.length_take]; omega
  have hg : ∀ k, k < m2 → (cutW s f j).getD k ⟨#[]⟩ = (splB s).getD k ⟨#[]⟩ := fun k hk => by
    rw [h1, List.getD_eq_getElem?_getD, List.getD_eq_getElem?_getD, List.getElem?_take_of_lt hk]
  unfold tryC
  rw [hl, hv, ho]
  congr 1
  · split
    · rw [hg 2 (by assumption)]
    · rfl
  · split
    · rename_i h; rw [hg 3 h.2]
    · rfl
theorem info24 : (Tryd.prog.info? 24).map (·.size) = some 9 := by kernel_rfl
theorem miss_step {c : Cmd} {n : Nat} {s : ByteArray} {f : Bool} {j : Nat} (h1 : 1 ≤ j → hitC c n s f 0 = false) (h2 : 2 ≤ j → hitC c n s f 1 = false) (hj : j < 2) (h : hitC c n s f j = false) : Aside0 (1 ≤ j + 1 → hitC c n s f 0 = false) := ⟨fun _ => by
  rcases (by omega : j = 0 ∨ j = 1) with rfl | rfl
  · exact h
  · exact h1 (by omega)⟩
theorem miss_step2 {c : Cmd} {n : Nat} {s : ByteArray} {f : Bool} {j : Nat} (h1 : 1 ≤ j → hitC c n s f 0 = false) (h2 : 2 ≤ j → hitC c n s f 1 = false) (hj : j < 2) (h : hitC c n s f j = false) : Aside0 (2 ≤ j + 1 → hitC c n s f 1 = false) := ⟨fun q => by
  obtain rfl : j = 1 := by omega
  exact h⟩
theorem out_step {c : Cmd} {n : Nat} {s : ByteArray} {f : Bool} {i : Nat} (hf : f = decide (i = 1)) (hi : i < 2) (h1 : 1 ≤ i → hitC c n s false 0 = false ∧ hitC c n s false 1 = false) (a : hitC c n s f 0 = false) (b : hitC c n s f 1 = false) : Aside0 (1 ≤ i + 1 → hitC c n s false 0 = false ∧ hitC c n s false 1 = false) := ⟨fun _ => by
  rcases (by omega : i = 0 ∨ i = 1) with rfl | rfl
  · have e : f = false := by rw [hf]; rfl
    rw [e] at a b; exact ⟨a, b⟩
  · exact h1 (by omega)⟩
theorem out_step2 {c : Cmd} {n : Nat} {s : ByteArray} {f : Bool} {i : Nat} (hf : f = decide (i = 1)) (hi : i < 2) (a : hitC c n s f 0 = false) (b : hitC c n s f 1 = false) : Aside0 (2 ≤ i + 1 → hitC c n s true 0 = false ∧ hitC c n s true 1 = false) := ⟨fun q => by
  obtain rfl : i = 1 := by omega
  have e : f = true := by rw [hf]; rfl
  rw [e] at a b; exact ⟨a, b⟩⟩
theorem twin_hit {c : Cmd} {n : Nat} {s : ByteArray} {f : Bool} {i j : Nat} (hf : f = decide (i = 1)) (hi : i < 2) (hj : j < 2) (h1 : 1 ≤ i → hitC c n s false 0 = false ∧ hitC c n s false 1 = false) (g1 : 1 ≤ j → hitC c n s f 0 = false) (h : hitC c n s f j = true) : twinC c n s = (tryC c s f j, 0) := by
  rcases (by omega : i = 0 ∨ i = 1) with rfl | rfl
  · have e : f = false := by rw [hf]; rfl
    subst e
    rcases (by omega : j = 0 ∨ j = 1) with rfl | rfl
    · replace h : hitC c n s false 0 = true := h
      unfold twinC; rw [if_pos h]; rfl
    · replace h : hitC c n s false 1 = true := h
      have := g1 (by omega); unfold twinC; rw [this, if_neg (by decide), if_pos h]; rfl
  · have e : f = true := by rw [hf]; rfl
    subst e
    have h1 := h1 (by omega)
    rcases (by omega : j = 0 ∨ j = 1) with rfl | rfl
    · replace h : hitC c n s true 0 = true := h
      unfold twinC; rw [h1.1, h1.2, if_neg (by decide), if_neg (by decide), if_pos h]; rfl
    · replace h : hitC c n s true 1 = true := h
      have := g1 (by omega); unfold twinC; rw [h1.1, h1.2, this, if_neg (by decide), if_neg (by decide), if_neg (by decide), if_pos h]; rfl
theorem twin_start (w : World) (c : Cmd) (v : Value) : Tw w w.heap.size (w.heap.size + 1) c v (((w.alloc (.cells (cmdA c v) 24)).alloc (.cells (cmdA zeroC (.slice none 0 0)) 24)).alloc (.cells #[.bool false, .bool true] 4)) := by
  have q6 := blk_new (w.alloc (.cells (cmdA c v) 24)) (.cells (cmdA zeroC (.slice none 0 0)) 24)
  rw [show (w.alloc (.cells (cmdA c v) 24)).heap.size = w.heap.size + 1 by simp] at q6
  exact ⟨blk_alloc (blk_alloc (blk_new w _) _) _, blk_alloc q6 _, below_alloc (below_alloc (below_alloc (Below.refl _ _) _) _) _, by omega⟩
def isR (w' : World) (r : Cmd × Int) (e : Ending) : Prop := ∃ A cap, e = .returned (.tuple #[cmdV r.1 (.slice A r.1.data.length cap), .int .i64 r.2]) ∧ Kd.C k35 w' A r.1.data.length r.1.data ∧ r.1.data.length ≤ cap
def twR (A : Option Addr) (cap : Nat) (c : Cmd) (r : Cmd × Int) (e : Ending) : Prop :=
  (e = .returned (.tuple #[cmdV r.1 (.slice A r.1.data.length cap), .int .i64 r.2]) ∧ r.1.data = c.data) ∨ (e = .returned (.tuple #[cmdV r.1 (.slice none 0 0), .int .i64 r.2]) ∧ r.1.data = [])
set_option maxHeartbeats 16000000 in
set_option maxRecDepth 100000 in
theorem twin_any (c : Cmd) (A : Option Addr) (cap : Nat) (Al : Option Addr) (n capl : Nat) (s : ByteArray) (w : World) (hA : Kd.C k35 w A c.data.length c.data) (hcap : c.data.length ≤ cap) (hn : c.data.length ≤ 140737488355328) (hx : ∀ x ∈ c.data, ok35 x = true) (hL : Ld w) (hs : s.size < 4294967281) :
    Calls Tryd.prog 29 #[cmdV c (.slice A c.data.length cap), .slice Al n capl, .string s] w fun e w' => twR A cap c (twinC c n s) e ∧ Below w.heap.size w w' := by
  obtain ⟨tag, kind, order, force, vol, other, pos, len, data⟩ := c
  unfold cmdV
  try simp only at hA hcap hn hx ⊢
  have hu24 := Tryd.underlying24
  have HA := Aside0.mk hA
  have HCAP := Aside0.mk hcap
  have HX := Aside0.mk hx
  have HN := Aside0.mk hn
  have HLD := Aside0.mk hL
  have HS := Aside0.mk hs
  clear hA hcap hx hn hL hs
  go_enter Tryd.func29, Tryd.ntmps29
  go_wp2
  have q := twin_start w ⟨tag, kind, order, force, vol, other, pos, len, data⟩ (.slice A data.length cap)
  have q14 := blk_new ((w.alloc (.cells #[.int .i64 tag, .int .i64 kind, .int .i64 order, .bool force, .string vol, .string other, .int .i64 pos, .int .i64 len, .slice A data.length cap] 24)).alloc (.cells #[.int .i64 0, .int .i64 0, .int .i64 0, .bool false, .string ⟨#[]⟩, .string ⟨#[]⟩, .int .i64 0, .int .i64 0, .slice none 0 0] 24)) (.cells #[.bool false, .bool true] 4)
  rw [show ((w.alloc (.cells #[.int .i64 tag, .int .i64 kind, .int .i64 order, .bool force, .string vol, .string other, .int .i64 pos, .int .i64 len, .slice A data.length cap] 24)).alloc (.cells #[.int .i64 0, .int .i64 0, .int .i64 0, .bool false, .string ⟨#[]⟩, .string ⟨#[]⟩, .int .i64 0, .int .i64 0, .slice none 0 0] 24)).heap.size = w.heap.size + 1 + 1 by simp] at q14
  replace q : Tw w w.heap.size (w.heap.size + 1) ⟨tag, kind, order, force, vol, other, pos, len, data⟩ (.slice A data.length cap) (((w.alloc (.cells #[.int .i64 tag, .int .i64 kind, .int .i64 order, .bool force, .string vol, .string other, .int .i64 pos, .int .i64 len, .slice A data.length cap] 24)).alloc (.cells #[.int .i64 0, .int .i64 0, .int .i64 0, .bool false, .string ⟨#[]⟩, .string ⟨#[]⟩, .int .i64 0, .int .i64 0, .slice none 0 0] 24)).alloc (.cells #[.bool false, .bool true] 4)) := q
  generalize ((w.alloc (.cells #[.int .i64 tag, .int .i64 kind, .int .i64 order, .bool force, .string vol, .string other, .int .i64 pos, .int .i64 len, .slice A data.length cap] 24)).alloc (.cells #[.int .i64 0, .int .i64 0, .int .i64 0, .bool false, .string ⟨#[]⟩, .string ⟨#[]⟩, .int .i64 0, .int .i64 0, .slice none 0 0] 24)).alloc (.cells #[.bool false, .bool true] 4) = w3 at q q14 ⊢
  generalize w.heap.size + 1 + 1 = g14 at q14 ⊢
  generalize hg6 : w.heap.size + 1 = g6 at q ⊢
  have HQ := Aside0.mk q
  have H14 := Aside0.mk q14
  clear q q14 hg6
  go_loopg [16] 2 (fun kq v16 w' => ∃ i : Nat, v16 = .int .i64 i ∧ Aside0 (i ≤ 2 ∧ kq = 2 - i) ∧ Aside0 (Tw w w.heap.size g6 ⟨tag, kind, order, force, vol, other, pos, len, data⟩ (.slice A data.length cap) w') ∧ Aside0 (w'.heap[g14]? = some (.cells #[.bool false, .bool true] 4 (0, 0))) ∧ Aside0 (1 ≤ i → hitC ⟨tag, kind, order, force, vol, other, pos, len, data⟩ n s false 0 = false ∧ hitC ⟨tag, kind, order, force, vol, other, pos, len, data⟩ n s false 1 = false) ∧ Aside0 (2 ≤ i → hitC ⟨tag, kind, order, force, vol, other, pos, len, data⟩ n s true 0 = false ∧ hitC ⟨tag, kind, order, force, vol, other, pos, len, data⟩ n s true 1 = false))
  case atStart => exact ⟨0, rfl, ⟨by omega, rfl⟩, HQ, H14, ⟨fun h => by omega⟩, ⟨fun h => by omega⟩⟩
  case round =>
    clear HQ H14
    obtain ⟨i, rfl, HI, HQ, H14, HF1, HF2⟩ := hrel
    by_cases h : i < 2
    · have d1 : decide ((i : Int) < 2) = true := decide_eq_true (by omega)
      have p1 : (0 ≤ (i : Int)) = True := eq_true (by omega)
      have p2 : ((i : Int) < 2) = True := eq_true (by omega)
      obtain ⟨f, hf⟩ : ∃ f, f = decide (i = 1) := ⟨_, rfl⟩
      have hc14 : wr.cell? ⟨g14, i, none⟩ = some (.bool f) := by
        rw [blk_cell H14.out i, hf]
        rcases (by omega : i = 0 ∨ i = 1) with rfl | rfl <;> rfl
      have HFX := Lib.hid hf
      clear hf
      go_wp2
      clear hc14
      have hq20 := blk_new wr (.cells #[.int .i64 0, .int .i64 1] 3)
      have hq := HQ.out.below (below_allocs wr (.cells #[.int .i64 0, .int .i64 1] 3))
      have h14 := blk_alloc H14.out (.cells #[.int .i64 0, .int .i64 1] 3)
      generalize wr.alloc (.cells #[.int .i64 0, .int .i64 1] 3) = w4 at hq20 hq h14 ⊢
      generalize wr.heap.size = g20 at hq20 ⊢
      have HQ4 := Aside0.mk hq
      have H144 := Aside0.mk h14
      have H20 := Aside0.mk hq20
      clear hq20 hq h14
      go_loopg [22] 2 (fun kq v22 w' => ∃ j : Nat, v22 = .int .i64 j ∧ Aside0 (j ≤ 2 ∧ kq = 2 - j) ∧ Aside0 (Tw w w.heap.size g6 ⟨tag, kind, order, force, vol, other, pos, len, data⟩ (.slice A data.length cap) w') ∧ Aside0 (w'.heap[g14]? = some (.cells #[.bool false, .bool true] 4 (0, 0))) ∧ Aside0 (w'.heap[g20]? = some (.cells #[.int .i64 0, .int .i64 1] 3 (0, 0))) ∧ Aside0 (1 ≤ j → hitC ⟨tag, kind, order, force, vol, other, pos, len, data⟩ n s f 0 = false) ∧ Aside0 (2 ≤ j → hitC ⟨tag, kind, order, force, vol, other, pos, len, data⟩ n s f 1 = false))
      case atStart => exact ⟨0, rfl, ⟨by omega, rfl⟩, HQ4, H144, H20, ⟨fun h => by omega⟩, ⟨fun h => by omega⟩⟩
      case round =>
        clear HQ4 H144 H20
        obtain ⟨j, rfl, HJ, HQ4, H144, H20, HG1, HG2⟩ := hrel
        by_cases hj : j < 2
        · have d2 : decide ((j : Int) < 2) = true := decide_eq_true (by omega)
          have p3 : (0 ≤ (j : Int)) = True := eq_true (by omega)
          have p4 : ((j : Int) < 2) = True := eq_true (by omega)
          have hc20 : wr.cell? ⟨g20, j, none⟩ = some (.int .i64 j) := by
            rw [blk_cell H20.out j]
            rcases (by omega : j = 0 ∨ j = 1) with rfl | rfl <;> rfl
          obtain ⟨c0, c1, c2, c3, c4, c5, c6, c7, c8⟩ := cells24 (show wr.heap[w.heap.size]? = some (.cells #[.int .i64 tag, .int .i64 kind, .int .i64 order, .bool force, .string vol, .string other, .int .i64 pos, .int .i64 len, .slice A data.length cap] 24 (0, 0)) from HQ4.out.h3)
          go_upto_region 8 with ((with_reducible refine gate_dst (N := 12) rfl ?_); refine box_event ?hg (N := 12) ?hd (cs := #[.int .i64 0, .int .i64 0, .int .i64 0, .bool false, .string ⟨#[]⟩, .string ⟨#[]⟩, .int .i64 0, .int .i64 0, .slice none 0 0]) (t := 24) ?hr ?_; (case hd => rfl); (case hg => rfl); (case hr => first | (go_simp; done) | (go_simp; rfl)); intro g12 hg w10 hbox hb; have n0_ := Aside0.mk (HQ4.out.below hb); have n1_ := Aside0.mk (blk_below H144.out hb); have n2_ := Aside0.mk (blk_below H20.out hb); have N3 : Aside0 (w.heap.size ≠ g12) := ⟨by have := blk_lt HQ4.out.h3; omega⟩; have N6 : Aside0 (g6 ≠ g12) := ⟨by have := blk_lt HQ4.out.h6; omega⟩; have N14 : Aside0 (g14 ≠ g12) := ⟨by have := blk_lt H144.out; omega⟩; have N20 : Aside0 (g20 ≠ g12) := ⟨by have := blk_lt H20.out; omega⟩; have G12 : Aside0 (w.heap.size ≤ g12) := ⟨by rw [hg]; exact below_size HQ4.out.hb⟩; have BK := Aside0.mk hbox; clear HQ4 H144 H20 hg hbox hb; have HQ4 := n0_; have H144 := n1_; have H20 := n2_; clear n0_ n1_ n2_; obtain ⟨z0, z1, z2, z3, z4, z5, z6, z7, z8⟩ := cells24 BK.out; obtain ⟨f0, f1, f2, f3, f4, f5, f6, f7, f8⟩ := frozen24 BK.out)
          have hk2 := put24 BK.out (.int .i64 tag) (.int .i64 kind) (.int .i64 order) (.bool force) (.string vol) (.string other) (.int .i64 pos) (.int .i64 len) (.slice A data.length cap)
          have hq := HQ4.out.far24 N3.out N6.out G12.out (.int .i64 tag) (.int .i64 kind) (.int .i64 order) (.bool force) (.string vol) (.string other) (.int .i64 pos) (.int .i64 len) (.slice A data.length cap)
          have h14 := far24 H144.out N14.out (.int .i64 tag) (.int .i64 kind) (.int .i64 order) (.bool force) (.string vol) (.string other) (.int .i64 pos) (.int .i64 len) (.slice A data.length cap)
          have h20 := far24 H20.out N20.out (.int .i64 tag) (.int .i64 kind) (.int .i64 order) (.bool force) (.string vol) (.string other) (.int .i64 pos) (.int .i64 len) (.slice A data.length cap)
          clear z0 z1 z2 z3 z4 z5 z6 z7 z8 f0 f1 f2 f3 f4 f5 f6 f7 f8 c0 c1 c2 c3 c4 c5 c6 c7 c8 HQ4 H144 H20 BK hc20
          generalize (((((((((w10.setCell ⟨g12, 0, none⟩ (.int .i64 tag)).setCell ⟨g12, 1, none⟩ (.int .i64 kind)).setCell ⟨g12, 2, none⟩ (.int .i64 order)).setCell ⟨g12, 3, none⟩ (.bool force)).setCell ⟨g12, 4, none⟩ (.string vol)).setCell ⟨g12, 5, none⟩ (.string other)).setCell ⟨g12, 6, none⟩ (.int .i64 pos)).setCell ⟨g12, 7, none⟩ (.int .i64 len)).setCell ⟨g12, 8, none⟩ (.slice A data.length cap)) = w11 at hk2 hq h14 h20 ⊢
          have HD := Aside0.mk hk2
          have HQ := Aside0.mk hq
          have H14 := Aside0.mk h14
          have H20 := Aside0.mk h20
          clear hk2 hq h14 h20
          obtain ⟨d0, d1', d2', d3, d4, d5, d6, d7, d8⟩ := cells24 HD.out
          obtain ⟨f0, f1, f2, f3, f4, f5, f6, f7, f8⟩ := frozen24 HD.out
          go_upto_region 9 with (fail)
          clear d0 d1' d2' d3 d4 d5 d6 d7 d8 f0 f1 f2 f3 f4 f5 f6 f7 f8
          have hk2 := blk_put (blk_put HD.out 3 (.bool f) rfl) 2 (.int .i64 j) rfl
          have hq := (HQ.out.set N3.out N6.out G12.out 3 (.bool f)).set N3.out N6.out G12.out 2 (.int .i64 j)
          have h14 := blk_far (blk_far H14.out (p := ⟨g12, 3, none⟩) N14.out (.bool f)) (p := ⟨g12, 2, none⟩) N14.out (.int .i64 j)
          have h20 := blk_far (blk_far H20.out (p := ⟨g12, 3, none⟩) N20.out (.bool f)) (p := ⟨g12, 2, none⟩) N20.out (.int .i64 j)
          generalize (w11.setCell ⟨g12, 3, none⟩ (.bool f)).setCell ⟨g12, 2, none⟩ (.int .i64 j) = w12 at hk2 hq h14 h20 ⊢
          replace HD := Aside0.mk hk2
          replace HQ := Aside0.mk hq
          replace H14 := Aside0.mk h14
          replace H20 := Aside0.mk h20
          clear hk2 hq h14 h20
          have HSP := Aside0.mk (Split_any s w12 (HLD.out.below HQ.out.hb) HS.out)
          go_upto_region 10 with ((with_reducible (refine Calls.mono HSP.out ?_)); rintro e w13 ⟨rfl, hb⟩)
          obtain ⟨hsw, hb⟩ := hb
          replace HQ := Aside0.mk (HQ.out.below hb)
          replace H14 := Aside0.mk (blk_below H14.out hb)
          replace H20 := Aside0.mk (blk_below H20.out hb)
          replace HD := Aside0.mk (blk_below HD.out hb)
          have HSW := Aside0.mk hsw
          clear hb hsw HSP
          generalize w12.heap.size = gw at HSW ⊢
          have hws := spl_pos s
          have hwb := spl_bd s HS.out
          generalize hn0 : (splB s).length = n0 at hws hwb ⊢
          have HN0 := Lib.hid hn0
          clear hn0
          have HWB := Aside0.mk hwb
          have HWS := Aside0.mk hws
          go_upto_if 34 with (fail)
          go_cut [13] from 35 to 40 (fun s13 wx => ∃ m : Nat, s13 = .slice (some ⟨gw, 0, none⟩) m n0 ∧ Aside0 (m = if j = 1 then n0 - 1 else n0) ∧ wx = w13)
          case first =>
            rcases (by omega : j = 0 ∨ j = 1) with rfl | rfl
            · go_wp2_with fail
              go_meet
              exact ⟨n0, rfl, ⟨rfl⟩, rfl⟩
            · go_wp2_with fail
              go_meet
              exact ⟨n0 - 1, by rw [show (max ((n0 : Int) - 1) 0).toNat = n0 - 1 by omega], ⟨rfl⟩, rfl⟩
          case rest =>
          obtain ⟨m1, rfl, HM1, rfl⟩ := hcut
          generalize wc = w14 at *
          go_upto_if 41 with (fail)
          go_cut [13] from 42 to 47 (fun s13 wx => ∃ m : Nat, s13 = .slice (some ⟨gw, 0, none⟩) m n0 ∧ Aside0 (m = if f = true then m1 - 1 else m1) ∧ wx = w14)
          case first =>
            cases f
            · go_wp2_with fail
              go_meet
              exact ⟨m1, rfl, ⟨rfl⟩, rfl⟩
            · have hm1b : (m1 : Int) ≤ 4294967290 := by have h1 := HM1.out; have h2 := HWB.out; split at h1 <;> omega
              have hm1c : m1 ≤ n0 := by have h1 := HM1.out; split at h1 <;> omega
              go_wp2_with fail
              go_meet
              exact ⟨m1 - 1, by rw [show (max ((m1 : Int) - 1) 0).toNat = m1 - 1 by omega], ⟨rfl⟩, rfl⟩
          case rest =>
          obtain ⟨m2, rfl, HM2, rfl⟩ := hcut
          generalize wc = w15 at *
          have hcw := cutW_take s f j (by omega) HN0.out HM1.out HM2.out
          obtain ⟨vol2, hv2⟩ : ∃ v, v = if 2 < m2 then (splB s).getD 2 ⟨#[]⟩ else vol := ⟨_, rfl⟩
          obtain ⟨oth2, ho2⟩ : ∃ v, v = if kind = 6 ∧ 3 < m2 then (splB s).getD 3 ⟨#[]⟩ else other := ⟨_, rfl⟩
          have HTRY : Aside0 (tryC ⟨tag, kind, order, force, vol, other, pos, len, data⟩ s f j = ⟨tag, kind, (j : Int), f, vol2, oth2, pos, len, data⟩) := ⟨try_eq ⟨tag, kind, order, force, vol, other, pos, len, data⟩ hcw.1 hcw.2 hv2 ho2 HN0.out⟩
          have HCW := Aside0.mk hcw
          have HV2 := Lib.hid hv2
          have HO2 := Lib.hid ho2
          clear hcw hv2 ho2
          go_upto_if 50 with (fail)
          go_cut [] from 50 to 54 (fun wx => Aside0 (wx.heap[g12]? = some (.cells #[.int .i64 tag, .int .i64 kind, .int .i64 j, .bool f, .string vol2, .string other, .int .i64 pos, .int .i64 len, .slice A data.length cap] 24 (0, 0))) ∧ Aside0 (Tw w w.heap.size g6 ⟨tag, kind, order, force, vol, other, pos, len, data⟩ (.slice A data.length cap) wx) ∧ Aside0 (wx.heap[g14]? = some (.cells #[.bool false, .bool true] 4 (0, 0))) ∧ Aside0 (wx.heap[g20]? = some (.cells #[.int .i64 0, .int .i64 1] 3 (0, 0))) ∧ Aside0 (SpW wx (splB s) gw))
          case first =>
            by_cases h2 : 2 < m2
            · have e2 : decide ((2 : Int) < (m2 : Int)) = true := decide_eq_true (by omega)
              rw [e2]
              have e3 : ((2 : Int) < (m2 : Int)) = True := eq_true (by omega)
              have hcw := HSW.out.at 2 (by have := HCW.out.2; rw [HN0.out]; omega)
              rw [show (splB s).getD 2 ⟨#[]⟩ = vol2 by rw [HV2.out, if_pos h2]] at hcw
              have NW : Aside0 (gw ≠ g12) := ⟨blk_ne HSW.out HD.out (by decide)⟩
              clear h2
              obtain ⟨d0, d1', d2', d3, d4, d5, d6, d7, d8⟩ := cells24 HD.out
              obtain ⟨f0, f1, f2, f3, f4, f5, f6, f7, f8⟩ := frozen24 HD.out
              go_wp2_with fail
              go_meet
              exact ⟨⟨blk_put HD.out 4 _ rfl⟩, ⟨HQ.out.set N3.out N6.out G12.out 4 _⟩, ⟨blk_far H14.out (p := ⟨g12, 4, none⟩) N14.out _⟩, ⟨blk_far H20.out (p := ⟨g12, 4, none⟩) N20.out _⟩, ⟨blk_far HSW.out (p := ⟨g12, 4, none⟩) NW.out _⟩⟩
            · have e2 : decide ((2 : Int) < (m2 : Int)) = false := decide_eq_false (by omega)
              rw [e2]
              have hvv : vol2 = vol := by rw [HV2.out, if_neg h2]
              have HVV := Lib.hid hvv
              clear hvv h2
              go_wp2_with fail
              go_meet
              rw [HVV.out]
              exact ⟨HD, HQ, H14, H20, HSW⟩
          case rest =>
          clear HD HQ H14 H20 HSW
          obtain ⟨HD, HQ, H14, H20, HSW⟩ := hcut
          generalize wc = w16 at *
          by_cases hk6 : kind = 6
          · have k6 : (kind == 6) = true := beq_iff_eq.2 hk6
            by_cases h3 : 3 < m2
            · have e3 : decide ((3 : Int) < (m2 : Int)) = true := decide_eq_true (by omega)
              have e4 : ((3 : Int) < (m2 : Int)) = True := eq_true (by omega)
              have hcw := HSW.out.at 3 (by have := HCW.out.2; rw [HN0.out]; omega)
              rw [show (splB s).getD 3 ⟨#[]⟩ = oth2 by rw [HO2.out, if_pos ⟨hk6, h3⟩]] at hcw
              have NW : Aside0 (gw ≠ g12) := ⟨blk_ne HSW.out HD.out (by decide)⟩
              have HK6 := Lib.hid hk6
              clear h3 hk6
              obtain ⟨d0, d1', d2', d3, d4, d5, d6, d7, d8⟩ := cells24 HD.out
              obtain ⟨f0, f1, f2, f3, f4, f5, f6, f7, f8⟩ := frozen24 HD.out
              go_upto_region 18 with (fail)
              have hk2 := blk_put HD.out 5 (.string oth2) rfl
              have hq := HQ.out.set N3.out N6.out G12.out 5 (.string oth2)
              have h14 := blk_far H14.out (p := ⟨g12, 5, none⟩) N14.out (.string oth2)
              have h20 := blk_far H20.out (p := ⟨g12, 5, none⟩) N20.out (.string oth2)
              clear hcw e3 e4 d0 d1' d2' d3 d4 d5 d6 d7 d8 f0 f1 f2 f3 f4 f5 f6 f7 f8
              generalize w16.setCell ⟨g12, 5, none⟩ (.string oth2) = w16b at hk2 hq h14 h20 ⊢
              replace HD := Aside0.mk hk2
              replace HQ := Aside0.mk hq
              replace H14 := Aside0.mk h14
              replace H20 := Aside0.mk h20
              clear hk2 hq h14 h20
              by_cases hn0 : 0 < n
              · have g1 : decide ((0 : Int) < (n : Int)) = true := decide_eq_true (by omega)
                have g1n : decide (0 < n) = true := decide_eq_true hn0
                cases hse : s.toList.isEmpty
                · obtain ⟨d0, d1', d2', d3, d4, d5, d6, d7, d8⟩ := cells24 HD.out
                  have HT : Aside0 (Calls Tryd.prog 15 #[.agg #[.int .i64 tag, .int .i64 kind, .int .i64 j, .bool f, .string vol2, .string oth2, .int .i64 pos, .int .i64 len, .slice A data.length cap]] w16b fun e w' => e = .returned (.string (mkB (textC (tryC ⟨tag, kind, order, force, vol, other, pos, len, data⟩ s f j)))) ∧ Below w16b.heap.size w16b w') := ⟨by rw [HTRY.out]; exact Text_any ⟨tag, kind, (j : Int), f, vol2, oth2, pos, len, data⟩ w16b A cap (Kd.C_below HA.out HQ.out.hb) HCAP.out HN.out HX.out (HLD.out.below HQ.out.hb)⟩
                  have hhit : hitC ⟨tag, kind, order, force, vol, other, pos, len, data⟩ n s f j = ((mkB (textC (tryC ⟨tag, kind, order, force, vol, other, pos, len, data⟩ s f j))).toList == s.toList) := by unfold hitC; rw [decide_eq_true hn0, hse]; rfl
                  generalize mkB (textC (tryC ⟨tag, kind, order, force, vol, other, pos, len, data⟩ s f j)) = tb at HT hhit
                  have HHT := Lib.hid hhit
                  clear hhit hn0
                  go_wp2_with fail
                  refine HT.out.mono ?_
                  rintro e w17 ⟨rfl, hb⟩
                  replace HQ := Aside0.mk (HQ.out.below hb)
                  replace H14 := Aside0.mk (blk_below H14.out hb)
                  replace H20 := Aside0.mk (blk_below H20.out hb)
                  replace HD := Aside0.mk (blk_below HD.out hb)
                  clear hb HT d0 d1' d2' d3 d4 d5 d6 d7 d8
                  cases heq : tb.toList == s.toList
                  · have HMS : Aside0 (hitC ⟨tag, kind, order, force, vol, other, pos, len, data⟩ n s f j = false) := ⟨by rw [HHT.out, heq]⟩
                    go_wp2
                    go_roundg (2 - (j + 1))
                    case measure => have := HJ.out; omega
                    case rel => exact ⟨j + 1, by first | rfl | (simp; omega) | (unfold wrap64; simp; omega), ⟨by omega, rfl⟩, HQ, H14, H20, miss_step HG1.out HG2.out hj HMS.out, miss_step2 HG1.out HG2.out hj HMS.out⟩
                  · have HHI : Aside0 (hitC ⟨tag, kind, order, force, vol, other, pos, len, data⟩ n s f j = true) := ⟨by rw [HHT.out, heq]⟩
                    obtain ⟨d0, d1', d2', d3, d4, d5, d6, d7, d8⟩ := cells24 HD.out
                    have hz6 : w17.heap[g6]? = some (.cells #[.int .i64 0, .int .i64 0, .int .i64 0, .bool false, .string ⟨#[]⟩, .string ⟨#[]⟩, .int .i64 0, .int .i64 0, .slice none 0 0] 24 (0, 0)) := HQ.out.h6
                    obtain ⟨z0, z1, z2, z3, z4, z5, z6, z7, z8⟩ := cells24 hz6
                    obtain ⟨f0, f1, f2, f3, f4, f5, f6, f7, f8⟩ := frozen24 hz6
                    have HZ6 := Aside0.mk hz6
                    clear hz6
                    go_wp2
                    have htw : twinC ⟨tag, kind, order, force, vol, other, pos, len, data⟩ n s = (tryC ⟨tag, kind, order, force, vol, other, pos, len, data⟩ s f j, 0) := twin_hit HFX.out h hj HF1.out HG1.out HHI.out
                    rw [htw, HTRY.out]
                    exact bodyPost_ret (results_ct rfl _ _ g6 24 _ (0, 0) _ rfl (put24 HZ6.out _ _ _ _ _ _ _ _ _) hu24 rfl info24) rfl ⟨Or.inl ⟨rfl, rfl⟩, below24 HQ.out.hb HQ.out.n6 _ _ _ _ _ _ _ _ _⟩
                · have HMS : Aside0 (hitC ⟨tag, kind, order, force, vol, other, pos, len, data⟩ n s f j = false) := ⟨by unfold hitC; rw [hse]; simp⟩
                  go_wp2
                  all_goals
                    go_roundg (2 - (j + 1))
                    case measure => have := HJ.out; omega
                    case rel => exact ⟨j + 1, by first | rfl | (simp; omega) | (unfold wrap64; simp; omega), ⟨by omega, rfl⟩, HQ, H14, H20, miss_step HG1.out HG2.out hj HMS.out, miss_step2 HG1.out HG2.out hj HMS.out⟩
              · have g1 : decide ((0 : Int) < (n : Int)) = false := decide_eq_false (by omega)
                have g1n : decide (0 < n) = false := decide_eq_false hn0
                have HMS : Aside0 (hitC ⟨tag, kind, order, force, vol, other, pos, len, data⟩ n s f j = false) := ⟨by unfold hitC; rw [decide_eq_false hn0]; rfl⟩
                go_wp2
                go_roundg (2 - (j + 1))
                case measure => have := HJ.out; omega
                case rel => exact ⟨j + 1, by first | rfl | (simp; omega) | (unfold wrap64; simp; omega), ⟨by omega, rfl⟩, HQ, H14, H20, miss_step HG1.out HG2.out hj HMS.out, miss_step2 HG1.out HG2.out hj HMS.out⟩
            · have e3 : decide ((3 : Int) < (m2 : Int)) = false := decide_eq_false (by omega)
              have hoo : other = oth2 := by rw [HO2.out, if_neg (fun q => h3 q.2)]
              obtain ⟨d0, d1', d2', d3, d4, d5, d6, d7, d8⟩ := cells24 HD.out
              have HK6 := Lib.hid hk6
              have HOO := Lib.hid hoo
              clear h3 hk6 hoo
              go_upto_region 18 with (fail)
              clear e3 d0 d1' d2' d3 d4 d5 d6 d7 d8
              rw [HOO.out] at HD
              by_cases hn0 : 0 < n
              · have g1 : decide ((0 : Int) < (n : Int)) = true := decide_eq_true (by omega)
                have g1n : decide (0 < n) = true := decide_eq_true hn0
                cases hse : s.toList.isEmpty
                · obtain ⟨d0, d1', d2', d3, d4, d5, d6, d7, d8⟩ := cells24 HD.out
                  have HT : Aside0 (Calls Tryd.prog 15 #[.agg #[.int .i64 tag, .int .i64 kind, .int .i64 j, .bool f, .string vol2, .string oth2, .int .i64 pos, .int .i64 len, .slice A data.length cap]] w16 fun e w' => e = .returned (.string (mkB (textC (tryC ⟨tag, kind, order, force, vol, other, pos, len, data⟩ s f j)))) ∧ Below w16.heap.size w16 w') := ⟨by rw [HTRY.out]; exact Text_any ⟨tag, kind, (j : Int), f, vol2, oth2, pos, len, data⟩ w16 A cap (Kd.C_below HA.out HQ.out.hb) HCAP.out HN.out HX.out (HLD.out.below HQ.out.hb)⟩
                  have hhit : hitC ⟨tag, kind, order, force, vol, other, pos, len, data⟩ n s f j = ((mkB (textC (tryC ⟨tag, kind, order, force, vol, other, pos, len, data⟩ s f j))).toList == s.toList) := by unfold hitC; rw [decide_eq_true hn0, hse]; rfl
                  generalize mkB (textC (tryC ⟨tag, kind, order, force, vol, other, pos, len, data⟩ s f j)) = tb at HT hhit
                  have HHT := Lib.hid hhit
                  clear hhit hn0
                  go_wp2_with fail
                  refine HT.out.mono ?_
                  rintro e w17 ⟨rfl, hb⟩
                  replace HQ := Aside0.mk (HQ.out.below hb)
                  replace H14 := Aside0.mk (blk_below H14.out hb)
                  replace H20 := Aside0.mk (blk_below H20.out hb)
                  replace HD := Aside0.mk (blk_below HD.out hb)
                  clear hb HT d0 d1' d2' d3 d4 d5 d6 d7 d8
                  cases heq : tb.toList == s.toList
                  · have HMS : Aside0 (hitC ⟨tag, kind, order, force, vol, other, pos, len, data⟩ n s f j = false) := ⟨by rw [HHT.out, heq]⟩
                    go_wp2
                    go_roundg (2 - (j + 1))
                    case measure => have := HJ.out; omega
                    case rel => exact ⟨j + 1, by first | rfl | (simp; omega) | (unfold wrap64; simp; omega), ⟨by omega, rfl⟩, HQ, H14, H20, miss_step HG1.out HG2.out hj HMS.out, miss_step2 HG1.out HG2.out hj HMS.out⟩
                  · have HHI : Aside0 (hitC ⟨tag, kind, order, force, vol, other, pos, len, data⟩ n s f j = true) := ⟨by rw [HHT.out, heq]⟩
                    obtain ⟨d0, d1', d2', d3, d4, d5, d6, d7, d8⟩ := cells24 HD.out
                    have hz6 : w17.heap[g6]? = some (.cells #[.int .i64 0, .int .i64 0, .int .i64 0, .bool false, .string ⟨#[]⟩, .string ⟨#[]⟩, .int .i64 0, .int .i64 0, .slice none 0 0] 24 (0, 0)) := HQ.out.h6
                    obtain ⟨z0, z1, z2, z3, z4, z5, z6, z7, z8⟩ := cells24 hz6
                    obtain ⟨f0, f1, f2, f3, f4, f5, f6, f7, f8⟩ := frozen24 hz6
                    have HZ6 := Aside0.mk hz6
                    clear hz6
                    go_wp2
                    have htw : twinC ⟨tag, kind, order, force, vol, other, pos, len, data⟩ n s = (tryC ⟨tag, kind, order, force, vol, other, pos, len, data⟩ s f j, 0) := twin_hit HFX.out h hj HF1.out HG1.out HHI.out
                    rw [htw, HTRY.out]
                    exact bodyPost_ret (results_ct rfl _ _ g6 24 _ (0, 0) _ rfl (put24 HZ6.out _ _ _ _ _ _ _ _ _) hu24 rfl info24) rfl ⟨Or.inl ⟨rfl, rfl⟩, below24 HQ.out.hb HQ.out.n6 _ _ _ _ _ _ _ _ _⟩
                · have HMS : Aside0 (hitC ⟨tag, kind, order, force, vol, other, pos, len, data⟩ n s f j = false) := ⟨by unfold hitC; rw [hse]; simp⟩
                  go_wp2
                  all_goals
                    go_roundg (2 - (j + 1))
                    case measure => have := HJ.out; omega
                    case rel => exact ⟨j + 1, by first | rfl | (simp; omega) | (unfold wrap64; simp; omega), ⟨by omega, rfl⟩, HQ, H14, H20, miss_step HG1.out HG2.out hj HMS.out, miss_step2 HG1.out HG2.out hj HMS.out⟩
              · have g1 : decide ((0 : Int) < (n : Int)) = false := decide_eq_false (by omega)
                have g1n : decide (0 < n) = false := decide_eq_false hn0
                have HMS : Aside0 (hitC ⟨tag, kind, order, force, vol, other, pos, len, data⟩ n s f j = false) := ⟨by unfold hitC; rw [decide_eq_false hn0]; rfl⟩
                go_wp2
                go_roundg (2 - (j + 1))
                case measure => have := HJ.out; omega
                case rel => exact ⟨j + 1, by first | rfl | (simp; omega) | (unfold wrap64; simp; omega), ⟨by omega, rfl⟩, HQ, H14, H20, miss_step HG1.out HG2.out hj HMS.out, miss_step2 HG1.out HG2.out hj HMS.out⟩
          · have k6 : (kind == 6) = false := beq_eq_false_iff_ne.2 hk6
            have hoo : other = oth2 := by rw [HO2.out, if_neg (fun q => hk6 q.1)]
            obtain ⟨d0, d1', d2', d3, d4, d5, d6, d7, d8⟩ := cells24 HD.out
            have HOO := Lib.hid hoo
            clear hk6 hoo
            go_upto_region 18 with (fail)
            clear d0 d1' d2' d3 d4 d5 d6 d7 d8
            rw [HOO.out] at HD
            by_cases hn0 : 0 < n
            · have g1 : decide ((0 : Int) < (n : Int)) = true := decide_eq_true (by omega)
              have g1n : decide (0 < n) = true := decide_eq_true hn0
              cases hse : s.toList.isEmpty
              · obtain ⟨d0, d1', d2', d3, d4, d5, d6, d7, d8⟩ := cells24 HD.out
                have HT : Aside0 (Calls Tryd.prog 15 #[.agg #[.int .i64 tag, .int .i64 kind, .int .i64 j, .bool f, .string vol2, .string oth2, .int .i64 pos, .int .i64 len, .slice A data.length cap]] w16 fun e w' => e = .returned (.string (mkB (textC (tryC ⟨tag, kind, order, force, vol, other, pos, len, data⟩ s f j)))) ∧ Below w16.heap.size w16 w') := ⟨by rw [HTRY.out]; exact Text_any ⟨tag, kind, (j : Int), f, vol2, oth2, pos, len, data⟩ w16 A cap (Kd.C_below HA.out HQ.out.hb) HCAP.out HN.out HX.out (HLD.out.below HQ.out.hb)⟩
                have hhit : hitC ⟨tag, kind, order, force, vol, other, pos, len, data⟩ n s f j = ((mkB (textC (tryC ⟨tag, kind, order, force, vol, other, pos, len, data⟩ s f j))).toList == s.toList) := by unfold hitC; rw [decide_eq_true hn0, hse]; rfl
                generalize mkB (textC (tryC ⟨tag, kind, order, force, vol, other, pos, len, data⟩ s f j)) = tb at HT hhit
                have HHT := Lib.hid hhit
                clear hhit hn0
                go_wp2_with fail
                refine HT.out.mono ?_
                rintro e w17 ⟨rfl, hb⟩
                replace HQ := Aside0.mk (HQ.out.below hb)
                replace H14 := Aside0.mk (blk_below H14.out hb)
                replace H20 := Aside0.mk (blk_below H20.out hb)
                replace HD := Aside0.mk (blk_below HD.out hb)
                clear hb HT d0 d1' d2' d3 d4 d5 d6 d7 d8
                cases heq : tb.toList == s.toList
                · have HMS : Aside0 (hitC ⟨tag, kind, order, force, vol, other, pos, len, data⟩ n s f j = false) := ⟨by rw [HHT.out, heq]⟩
                  go_wp2
                  go_roundg (2 - (j + 1))
                  case measure => have := HJ.out; omega
                  case rel => exact ⟨j + 1, by first | rfl | (simp; omega) | (unfold wrap64; simp; omega), ⟨by omega, rfl⟩, HQ, H14, H20, miss_step HG1.out HG2.out hj HMS.out, miss_step2 HG1.out HG2.out hj HMS.out⟩
                · have HHI : Aside0 (hitC ⟨tag, kind, order, force, vol, other, pos, len, data⟩ n s f j = true) := ⟨by rw [HHT.out, heq]⟩
                  obtain ⟨d0, d1', d2', d3, d4, d5, d6, d7, d8⟩ := cells24 HD.out
                  have hz6 : w17.heap[g6]? = some (.cells #[.int .i64 0, .int .i64 0, .int .i64 0, .bool false, .string ⟨#[]⟩, .string ⟨#[]⟩, .int .i64 0, .int .i64 0, .slice none 0 0] 24 (0, 0)) := HQ.out.h6
                  obtain ⟨z0, z1, z2, z3, z4, z5, z6, z7, z8⟩ := cells24 hz6
                  obtain ⟨f0, f1, f2, f3, f4, f5, f6, f7, f8⟩ := frozen24 hz6
                  have HZ6 := Aside0.mk hz6
                  clear hz6
                  go_wp2
                  have htw : twinC ⟨tag, kind, order, force, vol, other, pos, len, data⟩ n s = (tryC ⟨tag, kind, order, force, vol, other, pos, len, data⟩ s f j, 0) := twin_hit HFX.out h hj HF1.out HG1.out HHI.out
                  rw [htw, HTRY.out]
                  exact bodyPost_ret (results_ct rfl _ _ g6 24 _ (0, 0) _ rfl (put24 HZ6.out _ _ _ _ _ _ _ _ _) hu24 rfl info24) rfl ⟨Or.inl ⟨rfl, rfl⟩, below24 HQ.out.hb HQ.out.n6 _ _ _ _ _ _ _ _ _⟩
              · have HMS : Aside0 (hitC ⟨tag, kind, order, force, vol, other, pos, len, data⟩ n s f j = false) := ⟨by unfold hitC; rw [hse]; simp⟩
                go_wp2
                all_goals
                  go_roundg (2 - (j + 1))
                  case measure => have := HJ.out; omega
                  case rel => exact ⟨j + 1, by first | rfl | (simp; omega) | (unfold wrap64; simp; omega), ⟨by omega, rfl⟩, HQ, H14, H20, miss_step HG1.out HG2.out hj HMS.out, miss_step2 HG1.out HG2.out hj HMS.out⟩
            · have g1 : decide ((0 : Int) < (n : Int)) = false := decide_eq_false (by omega)
              have g1n : decide (0 < n) = false := decide_eq_false hn0
              have HMS : Aside0 (hitC ⟨tag, kind, order, force, vol, other, pos, len, data⟩ n s f j = false) := ⟨by unfold hitC; rw [decide_eq_false hn0]; rfl⟩
              go_wp2
              go_roundg (2 - (j + 1))
              case measure => have := HJ.out; omega
              case rel => exact ⟨j + 1, by first | rfl | (simp; omega) | (unfold wrap64; simp; omega), ⟨by omega, rfl⟩, HQ, H14, H20, miss_step HG1.out HG2.out hj HMS.out, miss_step2 HG1.out HG2.out hj HMS.out⟩
        · have hj2 : j = 2 := by have := HJ.out; omega
          subst hj2
          go_wp2
          go_roundg (2 - (i + 1))
          case measure => have := HI.out; omega
          case rel => exact ⟨i + 1, by first | rfl | (simp; omega) | (unfold wrap64; simp; omega), ⟨by omega, rfl⟩, HQ4, H144, out_step HFX.out h HF1.out (HG1.out (by omega)) (HG2.out (by omega)), out_step2 HFX.out h (HG1.out (by omega)) (HG2.out (by omega))⟩
    · have hi2 : i = 2 := by have := HI.out; omega
      subst hi2
      have htw : twinC ⟨tag, kind, order, force, vol, other, pos, len, data⟩ n s = (zeroC, 4) := by
        have h1 := HF1.out (by omega)
        have h2 := HF2.out (by omega)
        unfold twinC
        rw [h1.1, h1.2, h2.1, h2.2]
        rfl
      have hz6 : wr.heap[g6]? = some (.cells #[.int .i64 0, .int .i64 0, .int .i64 0, .bool false, .string ⟨#[]⟩, .string ⟨#[]⟩, .int .i64 0, .int .i64 0, .slice none 0 0] 24 (0, 0)) := HQ.out.h6
      obtain ⟨z0, z1, z2, z3, z4, z5, z6, z7, z8⟩ := cells24 hz6
      obtain ⟨f0, f1, f2, f3, f4, f5, f6, f7, f8⟩ := frozen24 hz6
      have HZ6 := Aside0.mk hz6
      have HTW := Lib.hid htw
      clear hz6 htw
      go_wp2
      rw [HTW.out]
      exact bodyPost_ret (results_ct rfl _ _ g6 24 _ (0, 0) _ rfl (put24 HZ6.out _ _ _ _ _ _ _ _ _) hu24 rfl info24) rfl ⟨Or.inr ⟨rfl, rfl⟩, below24 HQ.out.hb HQ.out.n6 _ _ _ _ _ _ _ _ _⟩
end Go.Proofs.YthbnghdobmghlaaDoor.ST
