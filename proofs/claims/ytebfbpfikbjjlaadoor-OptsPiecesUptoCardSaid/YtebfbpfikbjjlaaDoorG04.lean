/-
  What the second forms of chapter 4 hand in: as Frame's text, with its bulk.
-/
import Derived.Test.YtebfbpfikbjjlaaDoorF04
namespace Go.Proofs.YtebfbpfikbjjlaaDoor
open Go.ChangeShapes Go.WideShapes Go.ChangeAt Go.RowKit Go.Deep

theorem bulk_one {H : Type} (d : DataW H) : 1 ≤ Rows.uptoBulk d := by
  cases d with
  | lit l => cases l <;> simp [Rows.uptoBulk]
  | nil => simp [Rows.uptoBulk]
  | ptr d => simp [Rows.uptoBulk]
  | slice elems spare => simp [Rows.uptoBulk]
  | agg parts => simp [Rows.uptoBulk]
  | iface t d => simp [Rows.uptoBulk]
  | map entries => simp [Rows.uptoBulk]
  | held h => simp [Rows.uptoBulk]
theorem bulk_len {H : Type} (l : List (DataW H)) : l.length ≤ Rows.uptoBulkAll l := by
  induction l with
  | nil => simp [Rows.uptoBulkAll]
  | cons x r ih => have := bulk_one x; simp only [Rows.uptoBulkAll, List.length_cons]; omega
theorem open_bytes_upto {H : Type} {enc : TypeId × Value → H} {w : World} {base fuel : Nat} {spare : Nat → Bool} {held : Bool} {v : Value} {x : DataW H × List MemPlace}
    (h : DataW.trod enc Tryd.prog w base spare held fuel 22 [v] = some x) (hsp : ∀ b, spare b = true) (hwt : Rows.uptoBulk x.1 ≤ 1048576) : ∃ l, Rb w v l ∧ l.length ≤ 1048576 := by
  obtain ⟨u, l, e, hr, hB⟩ := cells_bytes h hsp
  obtain rfl : v = u := by simpa using e
  refine ⟨l, hr, ?_⟩
  rcases hB with ⟨_, rfl⟩ | ⟨e, s, hes, hle⟩
  · simp
  · rw [hes] at hwt
    have h1 := bulk_len e
    have h2 := bulk_len s
    simp only [Rows.uptoBulk] at hwt
    omega
theorem open_opts_upto {H : Type} {enc : TypeId × Value → H} {w : World} {base fuel : Nat} {spare : Nat → Bool} {held : Bool} {v : Value} {x : DataW H × List MemPlace}
    (h : DataW.trod enc Tryd.prog w base spare held fuel 23 [v] = some x) (hsp : ∀ b, spare b = true) (hwt : Rows.uptoBulk x.1 ≤ 1048576) : ∃ hs, Ropt w v hs ∧ hs.length ≤ 1048576 := by
  obtain ⟨hs, hr⟩ := open_opts h hsp
  refine ⟨hs, hr, ?_⟩
  rcases open_slice Tryd.underlying23 h with ⟨hcs, _⟩ | ⟨a, len, cap, m, n, D, Pl, hcs, hb, hl, hm, hmm, rfl, hx⟩
  · obtain rfl : v = .slice none 0 0 := by simpa using hcs
    obtain ⟨_, _, e, _⟩ := hr
    simp at e
    omega
  · obtain rfl : v = .slice (some a) len cap := by simpa using hcs
    obtain ⟨_, _, e, _⟩ := hr
    simp only [Value.slice.injEq] at e
    have h1 := bulk_len ((List.range len).map D)
    simp only [Rows.uptoBulk] at hwt
    simp at h1
    omega

end Go.Proofs.YtebfbpfikbjjlaaDoor
