/- strconv.Itoa's contract in this claim's words. Conditions: the table of powers is laid. -/
import Derived.Test.YtjieelmbgfnllaaGreatDoorScTold
import Derived.Test.YtjieelmbgfnllaaGreatDoorScQuoting
namespace Go.Proofs.YtjieelmbgfnllaaGreatDoor
open Go.RowKit Scr

/-- internal/strconv's table of powers is laid. -/
abbrev tabIs (w : World) : Prop := Lib.TabIs Tryz.prog w "internal/strconv.uint64pow10" .u64 Lib.pow10Tab
theorem tab_new {w w' : World} (h : tabIs w) (hm : Mod [] w w') : tabIs w' := by
  unfold tabIs Lib.TabIs World.var? at *
  rcases hg : Tryz.prog.globalNamed "internal/strconv.uint64pow10" with _ | g
  · rw [hg] at h; exact h
  · rw [hg] at h
    simp only [Option.bind_some] at h ⊢
    rcases Nat.lt_or_ge g w.heap.size with hl | hl
    · rw [hm.block g hl (by simp)]; exact h
    · rw [Array.getElem?_eq_none hl] at h; cases h
theorem mod_grow {w : World} (k : Nat) (os : Array Obj) : Mod [] w (Go.Sort.grow (w.drewN k) os) :=
  ⟨rfl, rfl, rfl, by simp [Go.Sort.grow], fun i hi _ => by
    show (w.heap ++ os)[i]? = w.heap[i]?
    rw [Array.getElem?_append_left hi]⟩
theorem itoa_walk (n : Int) (hn : I64 n) (w : World) (ht : tabIs w) : Calls Tryz.prog 147 #[.int .i64 n] w fun e w' => e = .returned (.string ⟨(Lib.itoa n).toArray⟩) ∧ Mod [] w w' := by
  refine (Tryz.strconv_Itoa n hn.1 hn.2 w ht).mono ?_
  rintro e w' ⟨rfl, k, os, rfl⟩
  exact ⟨rfl, mod_grow k os⟩
theorem itoa_le (n : Int) (hn : I64 n) : (Lib.itoa n).length ≤ 20 := by
  unfold Lib.itoa
  unfold I64 at hn
  split
  · have := dec_len n.natAbs 19 (by decide) (by omega)
    simp; omega
  · have := dec_len n.toNat 19 (by decide) (by omega)
    omega
end Go.Proofs.YtjieelmbgfnllaaGreatDoor
