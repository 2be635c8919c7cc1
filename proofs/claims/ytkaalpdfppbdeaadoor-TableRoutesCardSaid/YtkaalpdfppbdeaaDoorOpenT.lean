/- The arguments of the laws: numbers, masks, topologies. -/
import Derived.Test.YtkaalpdfppbdeaaDoorOpenP
import Derived.OpenShut
namespace Go.Proofs.YtkaalpdfppbdeaaDoor
namespace PW
open Go.RowKit Reg Mem Net
section
variable {H : Type} {enc : TypeId × Value → H} {W : World}
theorem rd_int {n : Nat} {cs : List Value} {y : DataW H × List MemPlace} (h : DataW.trod enc Tryd.prog W 0 (fun _ => true) true n 3 cs = some y) : ∃ a : Int, cs = [.int .i64 a] := by
  obtain ⟨a, h1, _⟩ := DataW.trod_int Tryd.underlying3 h
  exact ⟨a, h1⟩
theorem flatMap_one {α : Type} (f : α → PV) (l : List α) : l.flatMap (fun a => [f a]) = l.map f := by induction l with
  | nil => rfl
  | cons a l ih => simp [ih]
theorem rd_ints {n : Nat} {v : Value} {y : DataW H × List MemPlace} (h : DataW.trod enc Tryd.prog W 0 (fun _ => true) true n 29 [v] = some y) : ∃ L, Rep EN W v (intsV L) := by
  obtain ⟨L, hL⟩ := rd_slice (f := fun a : Int => [PV.raw (.int .i64 a)]) (s := 1) Tryd.underlying29 (by kernel_rfl) (by omega) (fun n cs y hy _ => by
    obtain ⟨a, rfl⟩ := rd_int hy
    exact ⟨a, RepL.one (.raw _)⟩) h
  refine ⟨L, ?_⟩
  rw [flatMap_one] at hL
  exact hL
theorem rd_bools {n : Nat} {v : Value} {y : DataW H × List MemPlace} (h : DataW.trod enc Tryd.prog W 0 (fun _ => true) true n 22 [v] = some y) : ∃ L, Rep EN W v (boolsV L) := by
  obtain ⟨L, hL⟩ := rd_slice (f := fun a : Bool => [PV.raw (.bool a)]) (s := 1) Tryd.underlying22 (by kernel_rfl) (by omega) (fun n cs y hy _ => by
    obtain ⟨a, rfl, _⟩ := DataW.trod_bool Tryd.underlying4 hy
    exact ⟨a, RepL.one (.raw _)⟩) h
  refine ⟨L, ?_⟩
  rw [flatMap_one] at hL
  exact hL
set_option maxRecDepth 10000 in
theorem rd_link {n : Nat} {cs : List Value} {y : DataW H × List MemPlace} (h : DataW.trod enc Tryd.prog W 0 (fun _ => true) true n 56 cs = some y) (hl : cs.length = 7) : ∃ l : Lnk, RepL EN W cs (lnkP l) := by
  have c3 : Tryd.prog.cellsOf 3 = 1 := by kernel_rfl
  have c54 : Tryd.prog.cellsOf 54 = 2 := by kernel_rfl
  obtain ⟨xs, m, _, _, _, hlen, hf⟩ := DataW.trod_struct Tryd.underlying56 h
  match cs, hl with
  | [c0, c1, c2, c3', c4, c5, c6], _ =>
    match xs, hlen with
    | [y0, y1, y2, y3, y4, y5], _ =>
      have f0 : DataW.trod enc Tryd.prog W 0 (fun _ => true) true m 3 (([c0, c1, c2, c3', c4, c5, c6].drop 0).take (Tryd.prog.cellsOf 3)) = some y0 := hf 0 _ rfl
      rw [c3] at f0
      have f1 : DataW.trod enc Tryd.prog W 0 (fun _ => true) true m 3 (([c0, c1, c2, c3', c4, c5, c6].drop 1).take (Tryd.prog.cellsOf 3)) = some y1 := hf 1 _ rfl
      rw [c3] at f1
      have f2 : DataW.trod enc Tryd.prog W 0 (fun _ => true) true m 54 (([c0, c1, c2, c3', c4, c5, c6].drop 2).take (Tryd.prog.cellsOf 54)) = some y2 := hf 2 _ rfl
      rw [c54] at f2
      have f3 : DataW.trod enc Tryd.prog W 0 (fun _ => true) true m 3 (([c0, c1, c2, c3', c4, c5, c6].drop 4).take (Tryd.prog.cellsOf 3)) = some y3 := hf 3 _ rfl
      rw [c3] at f3
      have f4 : DataW.trod enc Tryd.prog W 0 (fun _ => true) true m 3 (([c0, c1, c2, c3', c4, c5, c6].drop 5).take (Tryd.prog.cellsOf 3)) = some y4 := hf 4 _ rfl
      rw [c3] at f4
      have f5 : DataW.trod enc Tryd.prog W 0 (fun _ => true) true m 3 (([c0, c1, c2, c3', c4, c5, c6].drop 6).take (Tryd.prog.cellsOf 3)) = some y5 := hf 5 _ rfl
      rw [c3] at f5
      obtain ⟨a0, h0⟩ := rd_int f0
      obtain ⟨a1, h1⟩ := rd_int f1
      obtain ⟨a3, h3⟩ := rd_int f3
      obtain ⟨a4, h4⟩ := rd_int f4
      obtain ⟨a5, h5⟩ := rd_int f5
      obtain ⟨zs, m2, _, _, _, hz, hg⟩ := DataW.trod_array Tryd.underlying54 f2
      match zs, hz with
      | [z0, z1], _ =>
        have g0 := hg 0 (by omega)
        have g1 := hg 1 (by omega)
        rw [c3] at g0 g1
        obtain ⟨b0, k0⟩ := rd_int g0
        obtain ⟨b1, k1⟩ := rd_int g1
        simp at h0 h1 h3 h4 h5 k0 k1
        subst h0 h1 h3 h4 h5 k0 k1
        exact ⟨⟨a0, a1, b0, b1, a3, a4, a5⟩, RepL.cons (.raw _) <| RepL.cons (.raw _) <| RepL.cons (.raw _) <| RepL.cons (.raw _) <| RepL.cons (.raw _) <| RepL.cons (.raw _) <| RepL.cons (.raw _) (RepL.nil _ _)⟩
set_option maxRecDepth 10000 in
theorem rd_topo {base : Nat} {v : Value} {d : DataW H} {p : List MemPlace} (hv : Value.okWide Tryd.prog W .any base 25 v) (h : DataW.Trod enc Tryd.prog W 0 (fun _ => true) true 25 v d p) : ∃ T, Rep EN W v (topoV T) := by
  obtain ⟨v0, v1, v2, y0, y1, y2, n, rfl, _, _, h0, h1, h2⟩ := Joins.open_agg3 Tryd.underlying25 (by kernel_rfl) (by kernel_rfl) hv h
  obtain ⟨a, ha⟩ := rd_int h0
  obtain ⟨B, hB⟩ := rd_bools h1
  obtain ⟨L, hL⟩ := rd_slice (f := lnkP) (s := 7) Tryd.underlying23 (by kernel_rfl) (by omega) (fun n cs y hy hl => rd_link hy hl) h2
  cases ha
  refine ⟨⟨a, B, L⟩, .agg #[_, v1, v2] _ rfl (fun i x u k1 k2 => ?_)⟩
  match i, k1, k2 with
  | 0, k1, k2 => cases k1; cases k2; exact .raw _
  | 1, k1, k2 => cases k1; cases k2; exact hB
  | 2, k1, k2 => cases k1; cases k2; exact hL
  | _ + 3, _, k2 => simp [topoP] at k2
end
end PW
end Go.Proofs.YtkaalpdfppbdeaaDoor
