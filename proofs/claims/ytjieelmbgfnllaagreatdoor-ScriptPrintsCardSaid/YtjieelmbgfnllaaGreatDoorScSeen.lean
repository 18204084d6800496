/- Steps that can be read in memory, whoever owns them. Conditions: none. -/
import Derived.Test.YtjieelmbgfnllaaGreatDoorScParse2
import Derived.Test.YtjieelmbgfnllaaGreatDoorScPure
namespace Go.Proofs.YtjieelmbgfnllaaGreatDoor
open Go.RowKit Scr

/-- The slice value v of length n shows these cells. -/
def SeenRow (w : World) (v : Value) (n : Nat) (xs : List Value) : Prop :=
  ∃ A c, v = .slice A n c ∧ ∀ (j : Nat) (u : Value), xs[j]? = some u → ∃ b o, A = some ⟨b, o, none⟩ ∧ w.cell? ⟨b, o + j, none⟩ = some u
theorem SeenRow.new {w w' : World} {v : Value} {n : Nat} {xs : List Value} (h : SeenRow w v n xs) (hm : Mod [] w w') : SeenRow w' v n xs := by
  obtain ⟨A, c, rfl, hc⟩ := h
  refine ⟨A, c, rfl, fun j u hu => ?_⟩
  obtain ⟨b, o, rfl, hb⟩ := hc j u hu
  exact ⟨b, o, rfl, hm.cell hb (by simp)⟩
theorem SeenRow.own {w : World} {lo : Nat} {e : TypeId} {size n : Nat} {v : Value} {xs : List Value} (h : w.ownsRow lo e size v n xs) : SeenRow w v n xs := by
  rcases h.2 with ⟨rfl, rfl⟩ | ⟨g, cap, cur, rfl, _⟩
  · have hxs : xs = [] := List.eq_nil_of_length_eq_zero (by simpa using h.1)
    subst hxs
    exact ⟨none, 0, rfl, fun j u hu => by simp at hu⟩
  · refine ⟨some ⟨g, 0, none⟩, cap, rfl, fun j u hu => ⟨g, 0, rfl, ?_⟩⟩
    have := h.cells (g := g) rfl j u hu
    rwa [Addr.add_mid] at this
def SeenWrs (w : World) (v : Value) (l : List Wr) : Prop := SeenRow w v l.length (l.flatMap encWr)
def SeenInts (w : World) (v : Value) (l : List Int) : Prop := SeenRow w v l.length (l.map (Value.int .i64))
/-- The slice value v shows these steps. -/
def Seen (w : World) (v : Value) (rs : List RStep) : Prop :=
  SeenRow w v rs.length (rs.flatMap rowOf) ∧ ∀ x ∈ rs, SeenWrs w x.2.1 x.1.op.writes ∧ SeenInts w x.2.2 x.1.keep
theorem Seen.new {w w' : World} {v : Value} {rs : List RStep} (h : Seen w v rs) (hm : Mod [] w w') : Seen w' v rs :=
  ⟨h.1.new hm, fun x hx => ⟨(h.2 x hx).1.new hm, (h.2 x hx).2.new hm⟩⟩
theorem Rich.seen {w : World} {lo : Nat} {v : Value} {rs : List RStep} (h : Rich w lo v rs) : Seen w v rs :=
  ⟨.own h.1, fun x hx => ⟨.own (h.2.1 x hx).1, .own (h.2.1 x hx).2⟩⟩
/-- The cells of the step at a place. -/
theorem Seen.at_ {w : World} {v : Value} {rs : List RStep} (h : Seen w v rs) {i : Nat} {x : RStep} (hx : rs[i]? = some x) :
    ∃ b o c, v = .slice (some ⟨b, o, none⟩) rs.length c ∧ ∀ j u, (rowOf x)[j]? = some u → w.cell? ⟨b, o + (i * 12 + j), none⟩ = some u := by
  obtain ⟨A, c, rfl, hc⟩ := h.1
  have h0 : (rs.flatMap rowOf)[i * 12 + 0]? = (rowOf x)[0]? := rows_get rs i 0 x hx (by decide)
  obtain ⟨b, o, rfl, _⟩ := hc (i * 12 + 0) (.int .i64 x.1.kind) (h0.trans rfl)
  refine ⟨b, o, c, rfl, fun j u hu => ?_⟩
  have hj : j < 12 := by
    have := (List.getElem?_eq_some_iff.1 hu).1
    rwa [rowOf_len] at this
  obtain ⟨b', o', he, hcell⟩ := hc (i * 12 + j) u ((rows_get rs i j x hx hj).trans hu)
  injection he with he
  injection he with e1 e2
  subst e1; subst e2
  exact hcell
theorem encs_get : ∀ (l : List Wr) (i j : Nat) (x : Wr), l[i]? = some x → j < 3 → (l.flatMap encWr)[i * 3 + j]? = (encWr x)[j]?
  | [], i, j, x, h, _ => by simp at h
  | y :: t, 0, j, x, h, hj => by
    simp at h; subst h
    rw [List.flatMap_cons, Nat.zero_mul, Nat.zero_add, List.getElem?_append_left (by simpa [encWr] using hj)]
  | y :: t, i + 1, j, x, h, hj => by
    rw [List.flatMap_cons, List.getElem?_append_right (by simp [encWr]; omega), show (i + 1) * 3 + j - (encWr y).length = i * 3 + j from by simp [encWr]; omega]
    exact encs_get t i j x (by simpa using h) hj
theorem SeenWrs.at_ {w : World} {v : Value} {l : List Wr} (h : SeenWrs w v l) {i : Nat} {x : Wr} (hx : l[i]? = some x) :
    ∃ b o c, v = .slice (some ⟨b, o, none⟩) l.length c ∧ w.cell? ⟨b, o + i * 3, none⟩ = some (.string ⟨x.key.toArray⟩) ∧ w.cell? ⟨b, o + (i * 3 + 1), none⟩ = some (.bool x.del) ∧ w.cell? ⟨b, o + (i * 3 + 2), none⟩ = some (.string ⟨x.val.toArray⟩) := by
  obtain ⟨A, c, rfl, hc⟩ := h
  obtain ⟨b, o, rfl, h0⟩ := hc (i * 3 + 0) _ ((encs_get l i 0 x hx (by decide)).trans rfl)
  obtain ⟨b1, o1, e1, h1⟩ := hc (i * 3 + 1) _ ((encs_get l i 1 x hx (by decide)).trans rfl)
  obtain ⟨b2, o2, e2, h2⟩ := hc (i * 3 + 2) _ ((encs_get l i 2 x hx (by decide)).trans rfl)
  cases e1; cases e2
  exact ⟨b, o, c, rfl, h0, h1, h2⟩
theorem SeenInts.at_ {w : World} {v : Value} {l : List Int} (h : SeenInts w v l) {i : Nat} {x : Int} (hx : l[i]? = some x) :
    ∃ b o c, v = .slice (some ⟨b, o, none⟩) l.length c ∧ w.cell? ⟨b, o + i, none⟩ = some (.int .i64 x) := by
  obtain ⟨A, c, rfl, hc⟩ := h
  obtain ⟨b, o, rfl, h0⟩ := hc i (.int .i64 x) (by rw [List.getElem?_map, hx]; rfl)
  exact ⟨b, o, c, rfl, h0⟩
end Go.Proofs.YtjieelmbgfnllaaGreatDoor
