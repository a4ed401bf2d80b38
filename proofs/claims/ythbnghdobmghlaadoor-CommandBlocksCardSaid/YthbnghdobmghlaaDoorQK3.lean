import Derived.SizedLaws
import Derived.Test.YthbnghdobmghlaaDoorQK1
import Derived.Test.YthbnghdobmghlaaDoorQL6
namespace Go.Proofs.YthbnghdobmghlaaDoor.ST
open Go Go.RowKit Go.ChangeShapes Go.WideShapes Go.ChangeAt
set_option linter.unusedVariables false
theorem b35w : Tryd.prog.bytesOf 35 = 8 := by kernel_rfl
theorem cmd_len {H : Type} {enc : TypeId × Value → H} {W : World} {spare : Nat → Bool} {held : Bool} {ts : List TypeId} {ds : List (DataW H)} {j : Nat} {c : Cmd} {A : Option Addr} {cap : Nat} {d : DataW H} {p : List MemPlace}
    (hsz : (DataW.weightsEach Tryd.prog ts ds).all (· ≤ reachBytes) = true) (ht : ts[j]? = some 24) (hd : ds[j]? = some d) (h : DataW.Trod enc Tryd.prog W 0 spare held 24 (cmdV c (.slice A c.data.length cap)) d p) : c.data.length ≤ 140737488355328 := by
  obtain ⟨fuel, hf⟩ := h
  obtain ⟨xs, n, _, he, _, hlen, hg⟩ := DataW.trod_struct Tryd.underlying24 hf
  obtain ⟨y0, y1, y2, y3, y4, y5, y6, y7, y8, rfl⟩ := nine hlen
  have g8 : DataW.trod enc Tryd.prog W 0 spare held n 22 [.slice A c.data.length cap] = some y8 := by simpa [Value.cells, cmdV, c22] using hg 8 _ rfl
  obtain ⟨a, l, cp, e, _, _, _, hx⟩ := open_blocks g8
  have el : c.data.length = l.length := by injection e
  have hd' : d = .agg [y0.1, y1.1, y2.1, y3.1, y4.1, y5.1, y6.1, y7.1, y8.1] := by
    have := congrArg Prod.fst he
    simpa using this
  rcases hx with ⟨_, h0⟩ | ⟨q, sp, hs, hl⟩
  · omega
  · have h8 := DataW.weights_mem_each (P := Tryd.prog) (ts := [3, 3, 3, 4, 9, 9, 3, 3, 22]) (ds := [y0.1, y1.1, y2.1, y3.1, y4.1, y5.1, y6.1, y7.1, y8.1]) (j := 8) rfl rfl ((q.length + sp.length) * Tryd.prog.bytesOf 35) (by rw [hs]; simp [DataW.weights, Tryd.underlying22])
    have hm := DataW.weights_mem_each ht hd ((q.length + sp.length) * Tryd.prog.bytesOf 35) (by rw [hd', DataW.weights, Tryd.underlying24]; exact h8)
    have hb := List.all_eq_true.1 hsz _ hm
    rw [b35w] at hb
    have hb' : (q.length + sp.length) * 8 ≤ reachBytes := by simpa using hb
    have : reachBytes < 2 ^ 47 := reachBytes_lt
    omega
end Go.Proofs.YthbnghdobmghlaaDoor.ST
