/- The choice is the greatest element of the list in a total order: so it depends on the elements alone. No program in sight. -/
import Derived.Test.YtcieillicpbebaaFlowPlain
namespace Go.Proofs.Ytcieillicpbebaa
namespace Flow

/-- y is not greater than x: by weight, of equal weights the smaller arc is the greater. -/
def le (f n y x : Int) : Prop := wt f n y < wt f n x ∨ (wt f n y = wt f n x ∧ x ≤ y)
theorem le_refl (f n x : Int) : le f n x x := .inr ⟨rfl, Int.le_refl x⟩
theorem le_trans {f n a b c : Int} (h : le f n a b) (k : le f n b c) : le f n a c := by
  unfold le at *; omega
theorem le_antisymm {f n a b : Int} (h : le f n a b) (k : le f n b a) : a = b := by
  unfold le at *; omega

theorem pick_cases (f n b x : Int) : (pick f n b x = x ∧ le f n b x) ∨ (pick f n b x = b ∧ le f n x b) := by
  rcases Int.lt_trichotomy (wt f n b) (wt f n x) with h | h | h
  · exact .inl ⟨pick_gt f n b x h, .inl h⟩
  · by_cases hx : x < b
    · exact .inl ⟨pick_eq_lt f n b x h.symm hx, .inr ⟨h, by omega⟩⟩
    · exact .inr ⟨pick_eq_ge f n b x h.symm hx, .inr ⟨h.symm, by omega⟩⟩
  · exact .inr ⟨pick_lt f n b x h, .inl h⟩

theorem fold_spec (f n : Int) : ∀ (t : List Int) (b : Int), (t.foldl (pick f n) b = b ∨ t.foldl (pick f n) b ∈ t) ∧ le f n b (t.foldl (pick f n) b) ∧ ∀ y ∈ t, le f n y (t.foldl (pick f n) b)
  | [], b => by rw [List.foldl_nil]; exact ⟨.inl rfl, le_refl f n b, fun y hy => by cases hy⟩
  | x :: t, b => by
    rw [List.foldl_cons]
    obtain ⟨h1, h2, h3⟩ := fold_spec f n t (pick f n b x)
    rcases pick_cases f n b x with ⟨hp, hl⟩ | ⟨hp, hl⟩
    · rw [hp] at h1 h2 h3 ⊢
      refine ⟨?_, le_trans hl h2, fun y hy => ?_⟩
      · rcases h1 with h1 | h1
        · rw [h1]; exact .inr (List.mem_cons_self ..)
        · exact .inr (List.mem_cons_of_mem _ h1)
      · rcases List.mem_cons.1 hy with rfl | hy
        · exact h2
        · exact h3 y hy
    · rw [hp] at h1 h2 h3 ⊢
      refine ⟨?_, h2, fun y hy => ?_⟩
      · rcases h1 with h1 | h1
        · exact .inl h1
        · exact .inr (List.mem_cons_of_mem _ h1)
      · rcases List.mem_cons.1 hy with rfl | hy
        · exact le_trans hl h2
        · exact h3 y hy

theorem choose_spec (f n : Int) (L : List Int) (h : L ≠ []) : choose f n L ∈ L ∧ ∀ y ∈ L, le f n y (choose f n L) := by
  cases L with
  | nil => exact absurd rfl h
  | cons x t =>
    rw [choose_cons]
    obtain ⟨h1, h2, h3⟩ := fold_spec f n t x
    refine ⟨?_, fun y hy => ?_⟩
    · rcases h1 with h1 | h1
      · rw [h1]; exact List.mem_cons_self ..
      · exact List.mem_cons_of_mem _ h1
    · rcases List.mem_cons.1 hy with rfl | hy
      · exact h2
      · exact h3 y hy

theorem choose_unique (f n : Int) (L : List Int) (x : Int) (hx : x ∈ L) (h : ∀ y ∈ L, le f n y x) : choose f n L = x := by
  obtain ⟨h1, h2⟩ := choose_spec f n L (fun e => by rw [e] at hx; cases hx)
  exact le_antisymm (h _ h1) (h2 _ hx)

theorem choose_turned (f n : Int) (L : List Int) (k : Nat) : choose f n (L.drop k ++ L) = choose f n L := by
  cases L with
  | nil => simp
  | cons a t =>
    obtain ⟨h1, h2⟩ := choose_spec f n (a :: t) (by simp)
    refine choose_unique f n _ _ (List.mem_append_right _ h1) fun y hy => h2 y ?_
    rcases List.mem_append.1 hy with hy | hy
    · exact List.mem_of_mem_drop hy
    · exact hy

theorem choose_removed (f n : Int) (L : List Int) (k : Nat) (hk : k < L.length) (h : nth L k ≠ choose f n L) : choose f n (L.take k ++ L.drop (k + 1)) = choose f n L := by
  have hne : L ≠ [] := fun e => by rw [e] at hk; simp at hk
  obtain ⟨h1, h2⟩ := choose_spec f n L hne
  have hL : L = L.take k ++ nth L k :: L.drop (k + 1) := by
    have e : nth L k = L[k] := by simp [nth, hk]
    rw [e, List.getElem_cons_drop hk, List.take_append_drop]
  refine choose_unique f n _ _ ?_ fun y hy => h2 y ?_
  · have h3 : choose f n L ∈ L.take k ++ nth L k :: L.drop (k + 1) := by rw [← hL]; exact h1
    rcases List.mem_append.1 h3 with h3 | h3
    · exact List.mem_append_left _ h3
    · rcases List.mem_cons.1 h3 with h3 | h3
      · exact absurd h3.symm h
      · exact List.mem_append_right _ h3
  · rw [hL]
    rcases List.mem_append.1 hy with hy | hy
    · exact List.mem_append_left _ hy
    · exact List.mem_append_right _ (List.mem_cons_of_mem _ hy)

theorem choose_added (f n : Int) (L : List Int) (x : Int) (hne : L ≠ []) : choose f n (L ++ [x]) = x ∨ choose f n (L ++ [x]) = choose f n L := by
  rw [choose_snoc f n L (by cases L with | nil => exact absurd rfl hne | cons _ _ => simp) x]
  rcases pick_cases f n (choose f n L) x with h | h
  · exact .inl h.1
  · exact .inr h.1

end Flow
end Go.Proofs.Ytcieillicpbebaa
