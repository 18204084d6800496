/- Words for memory: a block that is known whole; what a call may have turned ('Mod'); strings as lists of bytes. Conditions: none. -/
import Derived.Test.YtjieelmbgfnllaaGreatDoorProg
import Derived.WalkKit
import Derived.WalkLawsBesides
import Derived.WalkSpells
import Derived.BigQuiet
import Derived.Deep.QuietTactic
import Derived.Deep.LoopGhost
import Derived.Deep.DeepMust
import Derived.Deep.DeepFit
import Derived.Lib.Hide
import Derived.Lib.OthersKept
import Derived.IntWalk
import Derived.Outline
import Derived.Below
import Derived.Laws.OwnMore
import Derived.Laws.Rows
import Derived.Deep.AppendLies
import Derived.Deep.Draws
import Derived.ShutString
import Derived.Lib.Strings
import Derived.BigRegion
namespace Go.Proofs.YtjieelmbgfnllaaGreatDoor
open Go.RowKit

/-- Block g is just these cells, none frozen. -/
def Blk (w : World) (g : Nat) (t : TypeId) (cs : Array Value) : Prop := w.heap[g]? = some (.cells cs t (0, 0))

section
variable {w w' : World} {g : Nat} {t : TypeId} {cs : Array Value}
theorem Blk.lt (h : Blk w g t cs) : g < w.heap.size := by
  rcases Nat.lt_or_ge g w.heap.size with hlt | hge
  · exact hlt
  · unfold Blk at h; rw [Array.getElem?_eq_none hge] at h; cases h
theorem Blk.cell (h : Blk w g t cs) (i : Nat) : w.cell? ⟨g, i, none⟩ = cs[i]? := cell_of_row w g i cs t (0, 0) h
theorem Blk.frozen (h : Blk w g t cs) (i : Nat) : w.frozen? ⟨g, i, none⟩ = false := by
  unfold Blk at h
  simp [World.frozen?, h]
theorem Blk.new (w : World) (t : TypeId) (cs : Array Value) : Blk (w.alloc (.cells cs t)) w.heap.size t cs := heap_alloc_new w _
theorem Blk.newAt (w : World) (t : TypeId) (cs : Array Value) {n : Nat} (hn : n = w.heap.size) : Blk (w.alloc (.cells cs t)) n t cs := by subst hn; exact heap_alloc_new w _
theorem Blk.drew (h : Blk w g t cs) : Blk w.drew g t cs := h
theorem Blk.drewN (h : Blk w g t cs) (n : Nat) : Blk (w.drewN n) g t cs := h
theorem Blk.alloc (h : Blk w g t cs) (o : Obj) : Blk (w.alloc o) g t cs := (Below.heap_alloc w o g h.lt).trans h
theorem Blk.set_ (h : Blk w g t cs) (i : Nat) (u : Value) : Blk (w.setCell ⟨g, i, none⟩ u) g t (cs.setIfInBounds i u) := by
  unfold Blk at h ⊢
  simp [World.setCell, Array.getElem?_modify, h]
theorem Blk.far (h : Blk w g t cs) {p : Addr} (hp : g ≠ p.block) (u : Value) : Blk (w.setCell p u) g t cs := (Below.heap_setCell w p u g hp).trans h
theorem Blk.ne_ {g' : Nat} {t' : TypeId} {cs' : Array Value} (h : Blk w g t cs) (h' : Blk w g' t' cs') (hne : t ≠ t') : g ≠ g' := by
  rintro rfl
  unfold Blk at h h'
  rw [h] at h'
  injection h' with h'
  injection h' with _ ht
  exact hne ht
end

theorem own_blk_ne {w : World} {g : Nat} {t : TypeId} {cs : Array Value} {base : Nat} {e : TypeId} {size n : Nat} {v : Value} {xs : List Value} (h : w.ownsRow base e size v n xs) (hg : Blk w g t cs) (hne : e ≠ t) : v.ownBlock ≠ some g := by
  rcases h.2 with ⟨rfl, _⟩ | ⟨g', cap, cur, rfl, _, hh, _⟩
  · simp [Value.ownBlock]
  · intro he
    have : g' = g := by simpa [Value.ownBlock] using he
    subst this
    exact Blk.ne_ (t := e) hh hg hne rfl
theorem own_drewN {w : World} {base : Nat} {e : TypeId} {size n : Nat} {v : Value} {xs : List Value} (h : w.ownsRow base e size v n xs) (k : Nat) : (w.drewN k).ownsRow base e size v n xs := h
theorem own_ge {w : World} {base : Nat} {e : TypeId} {size n : Nat} {v : Value} {xs : List Value} (h : w.ownsRow base e size v n xs) {k : Nat} (hk : v.ownBlock = some k) : base ≤ k := by
  rcases h.2 with ⟨rfl, _⟩ | ⟨g', cap, cur, rfl, hb, _⟩
  · cases hk
  · have : g' = k := by simpa [Value.ownBlock] using hk
    subst this; exact hb

/-- What a call may have turned: of the blocks that were there those of S alone. -/
structure Mod (S : List Nat) (w w' : World) : Prop where
  os : w'.os = w.os
  tape : w'.tape = w.tape
  output : w'.output = w.output
  size : w.heap.size ≤ w'.heap.size
  block : ∀ k, k < w.heap.size → k ∉ S → w'.heap[k]? = w.heap[k]?

section
variable {S S' : List Nat} {a w w' w2 : World}
theorem Mod.refl (S : List Nat) (w : World) : Mod S w w := ⟨rfl, rfl, rfl, Nat.le_refl _, fun _ _ _ => rfl⟩
theorem Mod.trans (h : Mod S w w') (k : Mod S w' w2) : Mod S w w2 :=
  ⟨k.os.trans h.os, k.tape.trans h.tape, k.output.trans h.output, Nat.le_trans h.size k.size, fun i hi hn => (k.block i (Nat.lt_of_lt_of_le hi h.size) hn).trans (h.block i hi hn)⟩
theorem Mod.mono (h : Mod S w w') (hs : ∀ k, k ∈ S → k ∈ S') : Mod S' w w' := ⟨h.os, h.tape, h.output, h.size, fun k hk hn => h.block k hk (fun hm => hn (hs k hm))⟩
/-- What the callee may have turned: blocks of S, or blocks of the caller's own. -/
theorem Mod.then (h : Mod S w w') (k : Mod S' w' w2) (hs : ∀ i, i ∈ S' → i ∈ S ∨ w.heap.size ≤ i) : Mod S w w2 :=
  ⟨k.os.trans h.os, k.tape.trans h.tape, k.output.trans h.output, Nat.le_trans h.size k.size, fun i hi hn => (k.block i (Nat.lt_of_lt_of_le hi h.size) (fun hm => by
    rcases hs i hm with h1 | h1
    · exact hn h1
    · omega)).trans (h.block i hi hn)⟩
theorem Mod.drew (h : Mod S a w) : Mod S a w.drew := ⟨h.os, h.tape, h.output, h.size, h.block⟩
theorem Mod.drewN (h : Mod S a w) (n : Nat) : Mod S a (w.drewN n) := ⟨h.os, h.tape, h.output, h.size, h.block⟩
theorem Mod.alloc (h : Mod S a w) (o : Obj) : Mod S a (w.alloc o) :=
  ⟨h.os, h.tape, h.output, Nat.le_trans h.size (by simp), fun i hi hn => (Below.heap_alloc w o i (Nat.lt_of_lt_of_le hi h.size)).trans (h.block i hi hn)⟩
theorem Mod.setCell (h : Mod S a w) {p : Addr} (hp : p.block ∈ S ∨ a.heap.size ≤ p.block) (u : Value) : Mod S a (w.setCell p u) :=
  ⟨h.os, h.tape, h.output, by simpa [World.setCell] using h.size, fun i hi hn => (Below.heap_setCell w p u i (by
    rintro rfl
    rcases hp with hp | hp
    · exact hn hp
    · omega)).trans (h.block i hi hn)⟩
theorem Mod.iterAt (h : Mod S a w) {k : Nat} (hk : a.heap.size ≤ k) (s : ByteArray) (pos : Nat) : Mod S a (w.iterAt k s pos) :=
  ⟨h.os, h.tape, h.output, by rw [Lib.iterAt_size]; exact h.size, fun i hi hn => by
    rw [← h.block i hi hn]
    show (w.heap.setIfInBounds k _)[i]? = _
    rw [Array.getElem?_setIfInBounds_ne (by omega)]⟩
theorem Mod.grown (h : Mod S a w) {row : Option Nat} (hg : w.grownBy w' row) (hr : ∀ k, row = some k → k ∈ S ∨ a.heap.size ≤ k) : Mod S a w' :=
  ⟨hg.os.trans h.os, hg.tape.trans h.tape, hg.output.trans h.output, Nat.le_trans h.size hg.size, fun i hi hn => (hg.block i (Nat.lt_of_lt_of_le hi h.size) (fun e => by
    rcases hr i e.symm with h1 | h1
    · exact hn h1
    · omega)).trans (h.block i hi hn)⟩
theorem Mod.of_below (h : Below w.heap.size w w') : Mod S w w' := ⟨h.os, h.tape, h.output, h.size, fun k hk _ => h.block k hk⟩
theorem Mod.below (h : Mod [] w w') : Below w.heap.size w w' := ⟨h.os, h.tape, h.output, h.size, fun k hk => h.block k hk (by simp)⟩
theorem Mod.blk {g : Nat} {t : TypeId} {cs : Array Value} (h : Mod S w w') (hb : Blk w g t cs) (hn : g ∉ S) : Blk w' g t cs := (h.block g hb.lt hn).trans hb
theorem Mod.cell (h : Mod S w w') {p : Addr} {v : Value} (hp : w.cell? p = some v) (hn : p.block ∉ S) : w'.cell? p = some v := by
  rw [← hp]; exact World.cell?_of_block (h.block p.block (block_lt_of_cell hp) hn)
end

section
variable {P : Program} {fn : Func} {p q : Tmp} {ty t : TypeId} {R : Ending → World → Prop} {a : Act} {w : World} {g : Nat} {cs : Array Value} {d : TypeDesc}
/-- A result that is a struct in a block, and one that is not. -/
theorem ret_cell_tmp (h : fn.results = #[.cell p ty, .tmp q]) (hp : a.tmps.getD p undef = .pointer (some ⟨g, 0, none⟩)) (hg : Blk w g t cs)
    (hu : P.underlying ty = some d) (hd : (match d with | .struct _ | .array _ _ => true | _ => false) = true) (hi : (P.info? ty).map (·.size) = some cs.size)
    (hdf : a.defers = []) (hR : R (.returned (.tuple #[.agg cs, a.tmps.getD q undef])) w) : bodyPost P fn R .ret a w := by
  refine bodyPost_ret (v := .tuple #[.agg cs, a.tmps.getD q undef]) ?_ hdf hR
  have hp' : a.tmps[p]?.getD undef = .pointer (some ⟨g, 0, none⟩) := by simpa using hp
  simp [results, h, hp', asAddr, run_loadVar_row w g t ty cs (0, 0) d hg hu hd hi]
theorem ret_cell (h : fn.results = #[.cell p ty]) (hp : a.tmps.getD p undef = .pointer (some ⟨g, 0, none⟩)) (hg : Blk w g t cs)
    (hu : P.underlying ty = some d) (hd : (match d with | .struct _ | .array _ _ => true | _ => false) = true) (hi : (P.info? ty).map (·.size) = some cs.size)
    (hdf : a.defers = []) (hR : R (.returned (.agg cs)) w) : bodyPost P fn R .ret a w :=
  bodyPost_ret (results_cell_row h a.tmps w g t cs (0, 0) d hp hg hu hd hi) hdf hR
end

theorem get_bang (s : ByteArray) (i : Nat) (h : i < s.size) : s.get! i = s[i] := by
  show s.data[i]! = s.data[i]
  have hh : i < s.data.size := h
  exact getElem!_pos s.data i hh
theorem byte_at (s : ByteArray) (i : Nat) (h : i < s.size) : s.data.toList[i]? = some s[i] := by
  have hh : i < s.data.size := h
  rw [Array.getElem?_toList, Array.getElem?_eq_getElem hh]; rfl
theorem cont_in {s : ByteArray} {i : Nat} (h : (decide (i < s.size) && ((s.get! i).toNat / 64 == 2)) = true) : i < s.size ∧ 128 ≤ (s.get! i).toNat := by
  simp only [Bool.and_eq_true, decide_eq_true_eq, beq_iff_eq] at h
  omega
/-- A rune that begins with a high byte is made of high bytes alone. -/
theorem decode_in (s : ByteArray) (pos : Nat) (h : pos < s.size) (ha : 128 ≤ (s.get! pos).toNat) : ∀ k, k < (Utf8.decode s pos).2 → pos + k < s.size ∧ 128 ≤ (s.get! (pos + k)).toNat := by
  intro k hk
  unfold Utf8.decode at hk
  simp only [Nat.add_zero] at hk
  rw [if_neg (by omega)] at hk
  have base : k < 1 → pos + k < s.size ∧ 128 ≤ (s.get! (pos + k)).toNat := fun h1 => by
    obtain rfl : k = 0 := by omega
    exact ⟨h, ha⟩
  by_cases c2 : ((s.get! pos).toNat / 32 == 6 && (decide (pos + 1 < s.size) && ((s.get! (pos + 1)).toNat / 64 == 2))) = true
  · rw [if_pos c2] at hk
    rw [Bool.and_eq_true] at c2
    have h1 := cont_in c2.2
    split at hk
    · rcases (by omega : k = 0 ∨ k = 1) with rfl | rfl
      · exact ⟨h, ha⟩
      · exact h1
    · exact base hk
  rw [if_neg c2] at hk
  by_cases c3 : ((s.get! pos).toNat / 16 == 14 && (decide (pos + 1 < s.size) && ((s.get! (pos + 1)).toNat / 64 == 2)) && (decide (pos + 2 < s.size) && ((s.get! (pos + 2)).toNat / 64 == 2))) = true
  · rw [if_pos c3] at hk
    simp only [Bool.and_eq_true] at c3
    have h1 : pos + 1 < s.size ∧ 128 ≤ (s.get! (pos + 1)).toNat := by
      have := c3.1.2; simp only [decide_eq_true_eq, beq_iff_eq] at this; omega
    have h2 : pos + 2 < s.size ∧ 128 ≤ (s.get! (pos + 2)).toNat := by
      have := c3.2; simp only [decide_eq_true_eq, beq_iff_eq] at this; omega
    split at hk
    · rcases (by omega : k = 0 ∨ k = 1 ∨ k = 2) with rfl | rfl | rfl
      · exact ⟨h, ha⟩
      · exact h1
      · exact h2
    · exact base hk
  rw [if_neg c3] at hk
  by_cases c4 : ((s.get! pos).toNat / 8 == 30 && (decide (pos + 1 < s.size) && ((s.get! (pos + 1)).toNat / 64 == 2)) && (decide (pos + 2 < s.size) && ((s.get! (pos + 2)).toNat / 64 == 2)) && (decide (pos + 3 < s.size) && ((s.get! (pos + 3)).toNat / 64 == 2))) = true
  · rw [if_pos c4] at hk
    simp only [Bool.and_eq_true] at c4
    have h1 : pos + 1 < s.size ∧ 128 ≤ (s.get! (pos + 1)).toNat := by
      have := c4.1.1.2; simp only [decide_eq_true_eq, beq_iff_eq] at this; omega
    have h2 : pos + 2 < s.size ∧ 128 ≤ (s.get! (pos + 2)).toNat := by
      have := c4.1.2; simp only [decide_eq_true_eq, beq_iff_eq] at this; omega
    have h3 : pos + 3 < s.size ∧ 128 ≤ (s.get! (pos + 3)).toNat := by
      have := c4.2; simp only [decide_eq_true_eq, beq_iff_eq] at this; omega
    split at hk
    · rcases (by omega : k = 0 ∨ k = 1 ∨ k = 2 ∨ k = 3) with rfl | rfl | rfl | rfl
      · exact ⟨h, ha⟩
      · exact h1
      · exact h2
      · exact h3
    · exact base hk
  rw [if_neg c4] at hk
  exact base hk
theorem ext_size (s : ByteArray) (a : Nat) : (s.extract a s.size).size = s.size - a := by
  simp [ByteArray.size_extract]
theorem ext_list (s : ByteArray) (a : Nat) : (s.extract a s.size).data.toList = s.data.toList.drop a := by
  rw [Lib.extract_data, List.take_of_length_le]
  rw [Lib.size_eq, List.length_drop]; exact Nat.le_refl _
theorem ext_at (s : ByteArray) (a i : Nat) (h : i < (s.extract a s.size).size) {c : UInt8} (hc : s.data.toList[a + i]? = some c) : (s.extract a s.size)[i] = c := by
  have := byte_at (s.extract a s.size) i h
  rw [ext_list, List.getElem?_drop, hc] at this
  exact (Option.some.inj this).symm
theorem ext_of_list (s : ByteArray) (a n : Nat) : (⟨((s.data.toList.drop a).take n).toArray⟩ : ByteArray) = s.extract a (a + n) := by
  apply ByteArray.ext
  apply Array.toList_inj.1
  rw [Lib.extract_data]
  simp
end Go.Proofs.YtjieelmbgfnllaaGreatDoor
