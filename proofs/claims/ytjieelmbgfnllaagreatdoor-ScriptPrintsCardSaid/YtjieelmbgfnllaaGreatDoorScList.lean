/- Steps in memory: a slice value that owns a list of steps, each with rows of its own; laws on append. Conditions: none. -/
import Derived.Test.YtjieelmbgfnllaaGreatDoorScStep3
import Derived.Deep.MidRow
import Derived.Maps.AppendAt
namespace Go.Proofs.YtjieelmbgfnllaaGreatDoor
open Go.RowKit Scr

/-- A step with the two slice values that it holds. -/
abbrev RStep := StepS × Value × Value
def rowOf (x : RStep) : List Value := [.int .i64 x.1.kind, .int .i64 x.1.a, .int .i64 x.1.b, .int .i64 x.1.c, .int .i64 x.1.op.kind, x.2.1, .bool x.1.op.sync, .string ⟨x.1.op.key.toArray⟩, .string ⟨x.1.op.til.toArray⟩, .int .i64 x.1.op.n, .int .i64 x.1.op.snap, x.2.2]
theorem rowOf_eq (x : RStep) : (rowOf x).toArray = stepCells x.1 x.2.1 x.2.2 := rfl
theorem rowOf_len (x : RStep) : (rowOf x).length = 12 := rfl
def ownW (rs : List RStep) : List Nat := rs.filterMap fun x => x.2.1.ownBlock
def ownK (rs : List RStep) : List Nat := rs.filterMap fun x => x.2.2.ownBlock
/-- The slice value v owns these steps; no two of them share memory. -/
def Rich (w : World) (lo : Nat) (v : Value) (rs : List RStep) : Prop :=
  w.ownsRow lo 69 12 v rs.length (rs.flatMap rowOf) ∧ (∀ x ∈ rs, WritesAt w lo x.2.1 x.1.op.writes ∧ IntsAt w lo x.2.2 x.1.keep) ∧ (ownW rs).Nodup ∧ (ownK rs).Nodup

theorem rows_len (rs : List RStep) : (rs.flatMap rowOf).length = rs.length * 12 := by
  induction rs with
  | nil => rfl
  | cons x t ih => rw [List.flatMap_cons, List.length_append, ih, rowOf_len, List.length_cons]; omega
theorem rows_get : ∀ (rs : List RStep) (i j : Nat) (x : RStep), rs[i]? = some x → j < 12 → (rs.flatMap rowOf)[i * 12 + j]? = (rowOf x)[j]?
  | [], i, j, x, h, _ => by simp at h
  | y :: t, 0, j, x, h, hj => by
    simp at h; subst h
    rw [List.flatMap_cons, Nat.zero_mul, Nat.zero_add, List.getElem?_append_left (by rw [rowOf_len]; exact hj)]
  | y :: t, i + 1, j, x, h, hj => by
    rw [List.flatMap_cons, List.getElem?_append_right (by rw [rowOf_len]; omega), rowOf_len, show (i + 1) * 12 + j - 12 = i * 12 + j from by omega]
    exact rows_get t i j x (by simpa using h) hj
theorem rows_one {w : World} {lo : Nat} {x : RStep} (hw : WritesAt w lo x.2.1 x.1.op.writes) (hk : IntsAt w lo x.2.2 x.1.keep) : ∀ u ∈ rowOf x, u.oneCell' = true := by
  intro u hu
  have h1 := own_one hw
  have h2 := own_one hk
  simp only [rowOf, List.mem_cons, List.not_mem_nil, or_false] at hu
  rcases hu with rfl | rfl | rfl | rfl | rfl | rfl | rfl | rfl | rfl | rfl | rfl | rfl <;> first | rfl | exact h1 | exact h2

theorem owns_type {w : World} {lo : Nat} {e : TypeId} {size : Nat} {v : Value} {n : Nat} {xs : List Value} (h : w.ownsRow lo e size v n xs) {g : Nat} (hg : v.ownBlock = some g) : ∃ cs, Blk w g e cs := by
  rcases h.2 with ⟨rfl, _⟩ | ⟨g', cap, cur, rfl, _, hh, _⟩
  · cases hg
  · have : g' = g := by simpa [Value.ownBlock] using hg
    subst this; exact ⟨cur, hh⟩
/-- An owned row is kept where the blocks that have turned are of other element types. -/
theorem owns_typed {S : List Nat} {w w' : World} {lo : Nat} {e : TypeId} {size : Nat} {v : Value} {n : Nat} {xs : List Value} (h : w.ownsRow lo e size v n xs) (hm : Mod S w w') (hS : ∀ g ∈ S, ∃ t cs, Blk w g t cs ∧ t ≠ e) : w'.ownsRow lo e size v n xs :=
  owns_mod h hm fun g hg hgS => by
    obtain ⟨t, cs, hb, hne⟩ := hS g hgS
    exact own_blk_ne h hb (Ne.symm hne) hg
theorem Rich.typed {S : List Nat} {w w' : World} {lo : Nat} {v : Value} {rs : List RStep} (h : Rich w lo v rs) (hm : Mod S w w') (hS : ∀ g ∈ S, ∃ t cs, Blk w g t cs ∧ t ≠ 69 ∧ t ≠ 71 ∧ t ≠ 3) : Rich w' lo v rs :=
  ⟨owns_typed h.1 hm (fun g hg => let ⟨t, cs, hb, h1, _, _⟩ := hS g hg; ⟨t, cs, hb, h1⟩),
   fun x hx => ⟨owns_typed (h.2.1 x hx).1 hm (fun g hg => let ⟨t, cs, hb, _, h1, _⟩ := hS g hg; ⟨t, cs, hb, h1⟩), owns_typed (h.2.1 x hx).2 hm (fun g hg => let ⟨t, cs, hb, _, _, h1⟩ := hS g hg; ⟨t, cs, hb, h1⟩)⟩, h.2.2⟩
theorem Rich.new {w w' : World} {lo : Nat} {v : Value} {rs : List RStep} (h : Rich w lo v rs) (hm : Mod [] w w') : Rich w' lo v rs := h.typed hm (by simp)

theorem ownW_lt {w : World} {lo : Nat} {v : Value} {rs : List RStep} (h : Rich w lo v rs) : ∀ g ∈ ownW rs, g < w.heap.size := by
  intro g hg
  obtain ⟨x, hx, hxg⟩ := List.mem_filterMap.1 hg
  exact own_lt (h.2.1 x hx).1 hxg
theorem ownK_lt {w : World} {lo : Nat} {v : Value} {rs : List RStep} (h : Rich w lo v rs) : ∀ g ∈ ownK rs, g < w.heap.size := by
  intro g hg
  obtain ⟨x, hx, hxg⟩ := List.mem_filterMap.1 hg
  exact own_lt (h.2.1 x hx).2 hxg
theorem owns_grown {w w' : World} {lo : Nat} {e e2 : TypeId} {size size2 : Nat} {v v2 : Value} {n n2 : Nat} {xs xs2 : List Value} (h : w.ownsRow lo e size v n xs) {lo2 : Nat} (h2 : w.ownsRow lo2 e2 size2 v2 n2 xs2) (hne : e ≠ e2) (hg : w.grownBy w' v2.ownBlock) : w'.ownsRow lo e size v n xs := by
  refine ⟨h.1, ?_⟩
  rcases h.2 with h0 | ⟨g, cap, cur, rfl, hb, hh, r⟩
  · exact .inl h0
  · refine .inr ⟨g, cap, cur, rfl, hb, (hg.block g (Array.getElem?_eq_some_iff.1 hh).1 (fun e => ?_)).trans hh, r⟩
    obtain ⟨cs, hb2⟩ := owns_type h2 e.symm
    exact own_blk_ne h hb2 hne rfl
theorem nodup_snoc {l : List Nat} {o : Option Nat} (h : l.Nodup) (ho : ∀ g, o = some g → g ∉ l) : (l ++ o.toList).Nodup := by
  cases o with
  | none => simpa using h
  | some g =>
    have := ho g rfl
    rw [List.nodup_append]
    exact ⟨h, by simp, by intro a ha b hb; simp at hb; subst hb; rintro rfl; exact this ha⟩
theorem ownW_snoc (rs : List RStep) (x : RStep) : ownW (rs ++ [x]) = ownW rs ++ x.2.1.ownBlock.toList := by
  unfold ownW; rw [List.filterMap_append]
  cases h : x.2.1.ownBlock <;> simp [h]
theorem ownK_snoc (rs : List RStep) (x : RStep) : ownK (rs ++ [x]) = ownK rs ++ x.2.2.ownBlock.toList := by
  unfold ownK; rw [List.filterMap_append]
  cases h : x.2.2.ownBlock <;> simp [h]
/-- A step more, whose own rows are younger than a world in which the others stood. -/
theorem Rich.push {w0 w w' : World} {lo : Nat} {v v' : Value} {rs : List RStep} {x : RStep} (h0 : Rich w0 lo v rs) (h : Rich w lo v rs) (hg : w.grownBy w' v.ownBlock)
    (hown : w'.ownsRow lo 69 12 v' (rs.length + 1) (rs.flatMap rowOf ++ rowOf x)) (hw : WritesAt w w0.heap.size x.2.1 x.1.op.writes) (hk : IntsAt w w0.heap.size x.2.2 x.1.keep) (hlo : lo ≤ w0.heap.size) : Rich w' lo v' (rs ++ [x]) := by
  refine ⟨by simpa using hown, ?_, ?_, ?_⟩
  · intro y hy
    rcases List.mem_append.1 hy with hy | hy
    · exact ⟨owns_grown (h.2.1 y hy).1 h.1 (by decide) hg, owns_grown (h.2.1 y hy).2 h.1 (by decide) hg⟩
    · simp at hy; subst hy
      exact ⟨owns_grown (owns_mono hw hlo) h.1 (by decide) hg, owns_grown (owns_mono hk hlo) h.1 (by decide) hg⟩
  · rw [ownW_snoc]
    exact nodup_snoc h.2.2.1 (fun g hg hm => by have := own_ge hw hg; have := ownW_lt h0 g hm; omega)
  · rw [ownK_snoc]
    exact nodup_snoc h.2.2.2 (fun g hg hm => by have := own_ge hk hg; have := ownK_lt h0 g hm; omega)

theorem info_step : (Tryz.prog.info? 69).map (fun i => (i.zero, i.size, i.bytes)) = some (some (.agg zeroStep), 12, 144) := by kernel_rfl

/-- append onto an owned row: where the new row lies; the old row's cells read as before. -/
theorem run_append_keep {P : Program} (w : World) (base : Nat) (t ty e : TypeId) (i : TypeInfo) (z : Value) (size bytes : Nat) (ht : P.underlying t = some (.slice e)) (hi : P.info? e = some i) (hz : i.zero = some z)
    (hsize : i.size = size) (hby : i.bytes = bytes) (hzs : z.cells.size = size) (hsz : 0 < size)
    (v : Value) (n : Nat) (xs : List Value) (hown : w.ownsRow base e size v n xs)
    (a : Addr) (m c : Nat) (news : List Value) (hl : news.length = m * size) (hnews : ∀ j u, news[j]? = some u → w.cell? (a.add j) = some u) (h1 : ∀ u ∈ news, u.oneCell' = true)
    (h63 : n + m ≤ maxLen) (hbytes : (n + m) * bytes ≤ 140737488355328) (hbase : base ≤ w.heap.size) :
    ∃ A k c2 w', (Builtin.append_ #[t, t] ty #[v, .slice (some a) m c]).run P w = .ok (.slice A k c2) w' ∧ w'.ownsRow base e size (.slice A k c2) (n + m) (xs ++ news) ∧ w.grownBy w' v.ownBlock ∧
      (∀ g, v.ownBlock = some g → ∀ j u, xs[j]? = some u → w'.cell? ⟨g, j, none⟩ = some u) := by
  obtain ⟨v', w', hr, h2, h3, _, h5⟩ := run_append_own_at (P := P) w base t ty e i z size bytes ht hi hz hsize hby hzs hsz v n xs hown a m c news hl hnews h1 h63 hbytes hbase
  obtain ⟨A, k, c2, rfl⟩ := own_slice h2
  refine ⟨A, k, c2, w', hr, h2, h3, ?_⟩
  intro g hg j u hu
  have hin : ∀ g2, (Value.slice A k c2).ownBlock = some g2 → g2 = g → w'.cell? ⟨g, j, none⟩ = some u := by
    rintro g2 hg2 rfl
    rcases h2.2 with ⟨h0, _⟩ | ⟨g3, cap, cur, he, _⟩
    · cases h0; cases hg2
    · cases he
      have : g3 = g2 := by simpa [Value.ownBlock] using hg2
      subst this
      have hj : j < xs.length := (List.getElem?_eq_some_iff.1 hu).1
      have := h2.cells (g := g3) rfl j u (by rw [List.getElem?_append_left hj]; exact hu)
      rwa [Addr.add_mid, Nat.zero_add] at this
  rcases h5 with h5 | h5
  · exact hin g (h5.trans hg) rfl
  · rcases hown.2 with ⟨rfl, _⟩ | ⟨g', cap, cur, rfl, hbg, hgh, hnc, hcm, hcs, htake⟩
    · cases hg
    · have hgg : g' = g := by simpa [Value.ownBlock] using hg
      subst hgg
      by_cases hroom : n + m ≤ cap
      · exfalso
        have hfit : n * i.size + news.length ≤ cur.size := by rw [hl, hcs, ← hsize, ← Nat.add_mul]; exact Nat.mul_le_mul_right _ hroom
        have hr2 := run_append_room (P := P) w t ty e i ht hi g' n cap cur hgh a m c news (by rw [hl, hsize]) hnews h1 hroom hfit
        rw [hr2] at hr
        injection hr with he _
        rw [← he] at h5
        simp [Value.ownBlock] at h5
        have := (Array.getElem?_eq_some_iff.1 hgh).1
        omega
      · have holds : ∀ j u, xs[j]? = some u → w.cell? ((⟨g', 0, none⟩ : Addr).add j) = some u := hown.cells (g := g') rfl
        have hr2 := run_append_grow (P := P) w t ty e i z ht hi hz ⟨g', 0, none⟩ n cap xs (by rw [hown.1, hsize]) holds a m c news (by rw [hl, hsize]) hnews (by omega) (by simp only [maxLen] at h63; omega) (growslice_fits (by omega) (by rw [hby]; exact hbytes))
        rw [hr2] at hr
        injection hr with _ hw
        have h6 := holds j u hu
        rw [Addr.add_mid, Nat.zero_add] at h6
        rw [← hw, World.cell?_alloc_lt _ _ _ (Array.getElem?_eq_some_iff.1 hgh).1]
        exact h6
theorem step_append_keep {P : Program} {ops : Array Oper} {o : Oper} {a : Act} {w : World} {K : Act → World → Prop} {Q : Exit → Act → World → Prop} {E : Prop} (hgd : o.guard = none) (s x : Operand) (t : TypeId)
    (ho : o.op = .call { callee := .builtin .append, args := #[s, x], argTypes := #[t, t] })
    (base : Nat) (e : TypeId) (i : TypeInfo) (z : Value) (size bytes : Nat) (ht : P.underlying t = some (.slice e)) (hi : P.info? e = some i) (hz : i.zero = some z)
    (hsize : i.size = size) (hby : i.bytes = bytes) (hzs : z.cells.size = size) (hsz : 0 < size)
    (v : Value) (n : Nat) (xs : List Value) (hs : a.eval s = v) (hown : w.ownsRow base e size v n xs)
    (ad : Addr) (m c : Nat) (news : List Value) (hx : a.eval x = .slice (some ad) m c) (hl : news.length = m * size) (hnews : ∀ j u, news[j]? = some u → w.cell? (ad.add j) = some u) (h1 : ∀ u ∈ news, u.oneCell' = true)
    (h63 : n + m ≤ maxLen) (hbytes : (n + m) * bytes ≤ 140737488355328) (hbase : base ≤ w.heap.size)
    (h : ∀ A k c w', w'.ownsRow base e size (.slice A k c) (n + m) (xs ++ news) → w.grownBy w' v.ownBlock → (∀ g, v.ownBlock = some g → ∀ j u, xs[j]? = some u → w'.cell? ⟨g, j, none⟩ = some u) → K (a.put o.dst (.slice A k c)) w') :
    if Region.wanted o (yielded ops a.tmps) = true then Oper.wp P o a w K Q else E := by
  rw [if_pos (by simp [Region.wanted, hgd])]
  obtain ⟨A, k, c2, w', hr, h2, h3, h4⟩ := run_append_keep (P := P) w base t o.type e i z size bytes ht hi hz hsize hby hzs hsz v n xs hown ad m c news hl hnews h1 h63 hbytes hbase
  unfold Oper.wp execOp
  simp only [ho, resolve, invoke, builtin, Sem.run_bind, Sem.run_pure, Result.andThen_ok, List.map_toArray, List.map_cons, List.map_nil, hs, hx, hr]
  exact h A k c2 w' h2 h3 h4

/-- append([]T(nil), xs...): a copy in new memory. -/
theorem wpList_append_copy {P : Program} {ops : Array Oper} {rest : List Oper} {o : Oper} {a : Act} {w : World} {Q : Exit → Act → World → Prop} (hgd : o.guard = none) (x : Operand) (t : TypeId)
    (ho : o.op = .call { callee := .builtin .append, args := #[.const (.slice none 0 0), x], argTypes := #[t, t] })
    (e : TypeId) (i : TypeInfo) (z : Value) (size bytes : Nat) (ht : P.underlying t = some (.slice e)) (hi : P.info? e = some i) (hz : i.zero = some z)
    (hsize : i.size = size) (hby : i.bytes = bytes) (hzs : z.cells.size = size) (hsz : 0 < size)
    (lo : Nat) (v : Value) (n : Nat) (xs : List Value) (hx : a.eval x = v) (hown : w.ownsRow lo e size v n xs) (h1 : ∀ u ∈ xs, u.oneCell' = true)
    (h63 : n ≤ maxLen) (hbytes : n * bytes ≤ 140737488355328)
    (h : ∀ A k c w', w'.ownsRow w.heap.size e size (.slice A k c) n xs → Mod [] w w' → wpList P ops Q rest (a.put o.dst (.slice A k c)) w') : wpList P ops Q (o :: rest) a w := by
  refine wpList_plain hgd fun K hK => ?_
  rcases hown.2 with ⟨rfl, rfl⟩ | ⟨g, cap, cur, rfl, hb, hh, hnc, hcm, hcs, htake⟩
  · have hxs : xs = [] := List.eq_nil_of_length_eq_zero (by simpa using hown.1)
    subst hxs
    have hr : (Builtin.append_ #[t, t] o.type #[.slice none 0 0, .slice none 0 0]).run P w = .ok (.slice none 0 0) w := by
      simp [Builtin.append_, run_underlying ht, sizeOf, typeInfo, hi, Builtin.lenOf, Builtin.firstCells]
    unfold Oper.wp execOp
    simp only [ho, resolve, invoke, builtin, Sem.run_bind, Sem.run_pure, Result.andThen_ok, List.map_toArray, List.map_cons, List.map_nil, show a.eval (.const (.slice none 0 0)) = Value.slice none 0 0 from rfl, hx, hr]
    exact hK _ _ (h none 0 0 w ⟨by simp, .inl ⟨rfl, rfl⟩⟩ (Mod.refl _ _))
  · obtain ⟨v', w', hr, h2, h3, _, _⟩ := run_append_own_at (P := P) w w.heap.size t o.type e i z size bytes ht hi hz hsize hby hzs hsz (.slice none 0 0) 0 [] ⟨by simp, .inl ⟨rfl, rfl⟩⟩ ⟨g, 0, none⟩ n cap xs hown.1 (hown.cells (g := g) rfl) h1 (by omega) (by rw [Nat.zero_add]; exact hbytes) (Nat.le_refl _)
    obtain ⟨A, k, c2, rfl⟩ := own_slice h2
    unfold Oper.wp execOp
    simp only [ho, resolve, invoke, builtin, Sem.run_bind, Sem.run_pure, Result.andThen_ok, List.map_toArray, List.map_cons, List.map_nil, show a.eval (.const (.slice none 0 0)) = Value.slice none 0 0 from rfl, hx, hr]
    refine hK _ _ (h A k c2 w' (by simpa using h2) ⟨h3.os, h3.tape, h3.output, h3.size, fun k hk _ => h3.block k hk (by simp [Value.ownBlock])⟩)
end Go.Proofs.YtjieelmbgfnllaaGreatDoor
