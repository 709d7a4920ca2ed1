/-
  Laws over any program: copy of a string into bytes of a block that is known whole; clear of such bytes.
-/
import Derived.Test.YtecamaceainfpaaDoorWords
import Derived.Test.YtecamaceainfpaaDoorBlake
import Derived.Laws.CopyRow
import Derived.Lib.Hide
namespace Go.Proofs.YtecamaceainfpaaDoor
open Go.RowKit
section
variable {P : Program}
theorem setRow_whole {w : World} {g : Nat} {t : TypeId} {cur : Array Value} (hg : Whole w g t cur) (cs : Array Value) : Whole (w.setRow g cs) g t cs := setRow_heap w g _ _ t _ hg
theorem setRow_only (w : World) (g : Nat) (cs : Array Value) : w.grownBy (w.setRow g cs) (some g) :=
  ⟨rfl, rfl, rfl, by simp [World.setRow], fun j _ hne => by simp only [World.setRow, Array.getElem?_modify]; rw [if_neg (fun e => hne (by rw [e]))]⟩
theorem B8_one (p : List UInt8) : ∀ v ∈ p.map B8, v.oneCell' = true := by
  intro v hv
  obtain ⟨b, _, rfl⟩ := List.mem_map.1 hv
  rfl
theorem run_copy_str (w : World) (dT sT ty elem : TypeId) (g o dLen dCap : Nat) (p : List UInt8) (cur : List Value) (t : TypeId)
    (hu : P.underlying dT = some (.slice elem)) (hs : (P.info? elem).map (·.size) = some 1) (hg : Whole w g t cur.toArray) (hfit : o + dLen ≤ cur.length) :
    (Builtin.copy_ #[dT, sT] ty #[.slice (some ⟨g, o, none⟩) dLen dCap, S p]).run P w =
      .ok (goInt ((p.take dLen).length : Nat)) (w.setRow g (cur.take o ++ ((p.take dLen).map B8 ++ cur.drop (o + (p.take dLen).length))).toArray) := by
  have hst := run_storeCells_at P g o t ((p.take dLen).map B8) 0 cur.toArray w hg (by simp; omega) (B8_one _)
  simp only [Nat.add_zero, List.length_map, List.append_assoc] at hst
  have hmin : Nat.min p.length dLen = (p.take dLen).length := by rw [List.length_take, Nat.min_comm]
  have hex : (((⟨p.toArray⟩ : ByteArray).extract 0 (Nat.min p.length dLen)).data.map fun b => Value.int .u8 b.toNat).toList = (p.take dLen).map B8 := by
    rw [ByteArray.data_extract]
    simp only [Array.toList_map, Array.toList_extract, List.extract_eq_take_drop, List.drop_zero, Nat.sub_zero]
    congr 1
    show List.take (min p.length dLen) p = _
    by_cases hh : p.length ≤ dLen
    · rw [Nat.min_eq_left hh, List.take_of_length_le (Nat.le_refl _), List.take_of_length_le hh]
    · rw [Nat.min_eq_right (by omega)]
  have hsz : (⟨p.toArray⟩ : ByteArray).size = p.length := by simp [ByteArray.size]
  cases hq : P.info? elem with
  | none => simp [hq] at hs
  | some i =>
    have hi : i.size = 1 := by simpa [hq] using hs
    simp only [Builtin.copy_, run_underlying hu, Builtin.lenOf, Builtin.firstCells, sizeOf, typeInfo, S, hsz, Sem.run_bind, Sem.run_pure, Result.andThen_ok, List.getElem?_toArray, List.getElem?_cons_zero, List.getElem?_cons_succ]
    rw [hex, hmin]
    generalize p.take dLen = q at *
    simp [hq, hst]
theorem wpList_copy_str {ops : Array Oper} {rest : List Oper} {o : Oper} {a : Act} {w : World} {Q : Exit → Act → World → Prop} (hgd : o.guard = none) (d s : Operand) (dT sT : TypeId)
    (ho : o.op = .call { callee := .builtin .copy, args := #[d, s], argTypes := #[dT, sT] }) (elem : TypeId) (hu : P.underlying dT = some (.slice elem)) (hs : (P.info? elem).map (·.size) = some 1)
    (g off dLen dCap : Nat) (p : List UInt8) (hd : a.eval d = .slice (some ⟨g, off, none⟩) dLen dCap) (hp : a.eval s = S p) (cur : List Value) (t : TypeId) (hg : Whole w g t cur.toArray) (hfit : off + dLen ≤ cur.length)
    (h : ∀ w', Hid (Whole w' g t (cur.take off ++ ((p.take dLen).map B8 ++ cur.drop (off + (p.take dLen).length))).toArray) → Hid (w.grownBy w' (some g)) → wpList P ops Q rest (a.put o.dst (goInt ((p.take dLen).length : Nat))) w') : wpList P ops Q (o :: rest) a w :=
  wpList_plain hgd fun _ hK => by
    have hrun := run_copy_str (P := P) w dT sT o.type elem g off dLen dCap p cur t hu hs hg hfit
    unfold Oper.wp execOp
    simp only [ho, resolve, invoke, builtin, Sem.run_bind, Sem.run_pure, Result.andThen_ok, List.map_toArray, List.map_cons, List.map_nil, hd, hp, hrun]
    exact hK _ _ (h _ (Lib.hid (setRow_whole hg _)) (Lib.hid (setRow_only w g _)))
theorem run_clear_bytes (w : World) (t ty elem : TypeId) (g o n c : Nat) (cur : List Value) (bt : TypeId) (hu : P.underlying t = some (.slice elem)) (hz : ∀ w, (zeroValue elem).run P w = .ok (B8 0) w) (hg : Whole w g bt cur.toArray) (hfit : o + n ≤ cur.length) :
    (Builtin.clear_ #[t] ty #[.slice (some ⟨g, o, none⟩) n c]).run P w = .ok (.tuple #[]) (w.setRow g (cur.take o ++ (List.replicate n (B8 0) ++ cur.drop (o + n))).toArray) := by
  have hst := run_storeCells_at P g o bt (List.replicate n (B8 0)) 0 cur.toArray w hg (by simpa using hfit) (fun v hv => by rw [List.eq_of_mem_replicate hv]; rfl)
  simp only [Nat.add_zero, List.length_replicate, List.append_assoc] at hst
  have hzc : (Builtin.zeroCells (B8 0).cells n).toList = List.replicate n (B8 0) := by
    apply List.ext_getElem
    · simp [Builtin.zeroCells, Value.cells]
    · intro i h1 h2
      simp [Builtin.zeroCells, Value.cells, Nat.mod_one]
  cases n with
  | zero =>
    have e : (cur.take o ++ (List.replicate 0 (B8 0) ++ cur.drop (o + 0))) = cur := by simp
    rw [e, setRow_self w g cur.toArray bt (0, 0) hg]
    simp [Builtin.clear_, run_underlying hu]
  | succ n => simp [Builtin.clear_, run_underlying hu, hz, hzc, hst]
theorem wpList_clear_bytes {ops : Array Oper} {rest : List Oper} {o : Oper} {a : Act} {w : World} {Q : Exit → Act → World → Prop} (hgd : o.guard = none) (s : Operand) (t : TypeId) (hdst : o.dst = none)
    (ho : o.op = .call { callee := .builtin .clear, args := #[s], argTypes := #[t] }) (elem : TypeId) (hu : P.underlying t = some (.slice elem)) (hz : ∀ w, (zeroValue elem).run P w = .ok (B8 0) w)
    (g off n c : Nat) (hs : a.eval s = .slice (some ⟨g, off, none⟩) n c) (cur : List Value) (bt : TypeId) (hg : Whole w g bt cur.toArray) (hfit : off + n ≤ cur.length)
    (h : ∀ w', Hid (Whole w' g bt (cur.take off ++ (List.replicate n (B8 0) ++ cur.drop (off + n))).toArray) → Hid (w.grownBy w' (some g)) → wpList P ops Q rest a w') : wpList P ops Q (o :: rest) a w :=
  wpList_plain hgd fun _ hK => by
    have hrun := run_clear_bytes (P := P) w t o.type elem g off n c cur bt hu hz hg hfit
    unfold Oper.wp execOp
    simp only [ho, resolve, invoke, builtin, Sem.run_bind, Sem.run_pure, Result.andThen_ok, List.map_toArray, List.map_cons, List.map_nil, hs, hrun]
    have := hK _ _ (h _ (Lib.hid (setRow_whole hg _)) (Lib.hid (setRow_only w g _)))
    simpa [Oper.upon, Act.put, hdst] using this
end
end Go.Proofs.YtecamaceainfpaaDoor
