/- Parse, by what its answer is. Conditions: none. -/
import Derived.Test.YtjieelmbgfnllaaGreatDoorScKnown
namespace Go.Proofs.YtjieelmbgfnllaaGreatDoor
open Go.RowKit Scr

theorem parse_split3 {w w1 : World} {t : Bs} {e : Ending} (hp : ParsePost w t e w1) : ∃ x v, e = .returned (.tuple #[x, v]) ∧ Mod [] w w1 ∧ (∀ f, parseP t = .error f → x = .slice none 0 0 ∧ ∃ b, v = .iface 92 (.pointer (some ⟨b, 0, none⟩))) ∧ (∀ l, parseP t = .ok l → v = .nilIface ∧ ∃ rs A c, x = .slice A rs.length c ∧ rs.map (·.1) = l ∧ Seen w1 x rs ∧ rs.length ≤ 20000) := by
  unfold ParsePost at hp
  rcases hq : parseP t with f | l
  · rw [hq] at hp
    obtain ⟨v', he, ⟨b, rfl, _, _⟩, hm⟩ := hp
    exact ⟨_, _, he, hm, fun f' _ => ⟨rfl, b, rfl⟩, fun l h => by cases h⟩
  · rw [hq] at hp
    obtain ⟨v', rs, he, h1, h2, h3, h4, hm⟩ := hp
    refine ⟨_, _, he, hm, fun f h => by (cases h), fun l' hl => ⟨rfl, rs, ?_⟩⟩
    cases hl
    have hs := h2.seen
    obtain ⟨A, c, rfl, _⟩ := id hs.1
    exact ⟨A, c, rfl, h1, hs, h4⟩
theorem canon_rows {t : Bs} {l : List StepS} {rs : List RStep} (h : parseP t = .ok l) (he : rs.map (·.1) = l) : ∀ x ∈ rs, Canon x.1 ∧ Nice x.1 := by
  intro x hx
  have hm : x.1 ∈ l := by rw [← he]; exact List.mem_map_of_mem hx
  exact ⟨(parse_ord h).1 _ hm, parse_nice h _ hm⟩
end Go.Proofs.YtjieelmbgfnllaaGreatDoor
