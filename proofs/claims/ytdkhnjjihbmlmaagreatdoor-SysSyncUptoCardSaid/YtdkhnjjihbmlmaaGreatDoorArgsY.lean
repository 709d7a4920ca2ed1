import Derived.Test.YtdkhnjjihbmlmaaGreatDoorTake
import Derived.Test.YtdkhnjjihbmlmaaGreatDoorRows
import Derived.Lib.SmallJoins
import Derived.Lib.LaidTab
namespace Go.Proofs.YtdkhnjjihbmlmaaGreatDoor
open Go.RowKit Go.ChangeShapes Go.WideShapes
section
theorem cells_of_tabs {H : Type} {enc : TypeId × Value → H} {P : Program} {w : World} {base : Nat} {sp : Nat → Bool} {held : Bool} {fuel : Nat} {t e f : TypeId} {n m : Nat} {k : IntKind} {cs : List Value} {zss : List (List Int)} {p : List MemPlace}
  (ht : P.underlying t = some (.array n e)) (he : P.underlying e = some (.array m f)) (hf : P.underlying f = some (.int k)) (hcf : P.cellsOf f = 1) (hce : P.cellsOf e = m) (hct : P.cellsOf t = n * m) (hz : ∀ zs ∈ zss,zs.length = m)
  (h : DataW.trod enc P w base sp held fuel t cs = some (.agg (zss.map fun zs => Lib.tabData k zs),p)) : cs = zss.flatten.map fun z => Value.int k z:=by
 cases fuel with
 | zero => simp [DataW.trod] at h
 | succ fuel =>
  simp only [DataW.trod,ht,hce,hct] at h;split at h
  ·rename_i hl;obtain ⟨xs,hm,hx⟩:=Option.map_eq_some_iff.1 h
   have hxs : xs.map (·.1) = zss.map fun zs => (Lib.tabData k zs : DataW H):=by
    have:=congrArg Prod.fst hx
    simpa using this
   have hxl : xs.length = n:=(by simpa using Lib.mapM_length hm);have hzl : zss.length = n:=(by have:=congrArg List.length hxs;simp at this;omega)
   have hrow : ∀ i (hi : i < n),(cs.drop (i * m)).take m = (zss[i]'(by omega)).map fun z => Value.int k z:=by intro i hi;obtain ⟨b,hb,hfb⟩:=Lib.mapM_at hm i i (by simp [hi]);have h2 : (xs.map (·.1))[i]? = some b.1:=(by simp [hb]);rw [hxs] at h2;have hb1 : b.1 = Lib.tabData k (zss[i]'(by omega)):=(by simpa [List.getElem?_eq_getElem (show i < zss.length by omega)] using h2.symm);have hfb' : DataW.trod enc P w base sp held fuel e (List.take m (List.drop (i * m) cs)) = some (Lib.tabData k (zss[i]'(by omega)),b.2):=(by rw [hfb,← hb1]);exact Lib.cells_of_tab he hf hcf hce hfb'
   have hlen : cs.length = n * m:=(by simpa using hl);clear hm hx hxs h hl
   -- cs,cut into n rows of m
   have key : ∀ (zss : List (List Int)) (cs : List Value),(∀ zs ∈ zss,zs.length = m) → cs.length = zss.length * m → (∀ i (hi : i < zss.length),(cs.drop (i * m)).take m = (zss[i]).map fun z => Value.int k z) → cs = zss.flatten.map fun z => Value.int k z:=by
    intro zss;induction zss with
    | nil => intro cs _ hl _;simpa using hl
    | cons z r ih =>
     intro cs hz hl hr;have h0:=hr 0 (by simp);simp only [Nat.zero_mul,List.drop_zero,List.getElem_cons_zero] at h0
     have h1:=ih (cs.drop m) (fun zs hzs => hz zs (List.mem_cons_of_mem _ hzs)) (by simp only [List.length_drop,hl,List.length_cons,Nat.add_mul];omega) (fun i hi => by
      have:=hr (i + 1) (by simpa using hi);rw [List.drop_drop,show m + i * m = (i + 1) * m by rw [Nat.add_mul];omega]
      simpa using this)
     rw [← List.take_append_drop m cs,h0,h1];simp
   exact key zss cs hz (by rw [hlen,hzl]) (fun i hi => hrow i (by omega))
  ·cases h
end
theorem block_of_var {P : Program} {W : World} {n : String} {g : Nat} {cs : Array Value} (hg : P.globalNamed n = some g) (h : W.var? P n = some cs) : ∃ t fr,W.heap[g]? = some (.cells cs t fr):=by
 unfold World.var? at h;rw [hg] at h;simp only [Option.bind_some] at h;cases hh : W.heap[g]? with
 | none => rw [hh] at h;cases h
 | some o =>
  rw [hh] at h;cases o with
  | cells c t fr => injection h with h;subst h;exact ⟨t,fr,rfl⟩
  | _ => cases h
theorem tabs_of_laid {W : World} {rest : List (String × DataW Unit)} (h : laidMet Tryz.prog (("hibernacle/hash.eight", Rows.laid_hibernacle_hash_eight) :: ("hibernacle/hash.rows", Rows.laid_hibernacle_hash_rows) :: rest) W) : Tabs W := by
 obtain ⟨ps, ⟨g, t, cs, fuel, p, q, hg, ht, hvar, hd, ⟨g', t', cs', fuel', p', q', hg', ht', hvar', hd', _, _⟩, _⟩, _⟩ := h; have eg : Tryz.prog.globalNamed "hibernacle/hash.eight" = some 1 := (by kernel_rfl); have eg' : Tryz.prog.globalNamed "hibernacle/hash.rows" = some 2 := (by kernel_rfl); obtain rfl := Option.some.inj (eg.symm.trans hg); obtain rfl := Option.some.inj (eg'.symm.trans hg'); have et : (Tryz.prog.globals[1]?).map (·.type) = some 321 := (by kernel_rfl); have et' : (Tryz.prog.globals[2]?).map (·.type) = some 347 := (by kernel_rfl); obtain rfl := Option.some.inj (et.symm.trans ht); obtain rfl := Option.some.inj (et'.symm.trans ht'); have hd1 : DataW.trod (fun _ => ()) Tryz.prog W 0 (fun _ => true) false fuel 321 cs.toList = some (Lib.tabData .u32 (IV.map fun x => (x.toNat : Int)), p) := hd; have hd2 : DataW.trod (fun _ => ()) Tryz.prog W 0 (fun _ => true) false fuel' 347 cs'.toList = some (.agg ((SIG.map fun l => l.map fun (n : Nat) => (n : Int)).map fun zs => Lib.tabData .u8 zs), p') := hd'; have c1 : cs.toList = (IV.map fun x => (x.toNat : Int)).map fun z => Value.int .u32 z := Lib.cells_of_tab Tryz.underlying321 Tryz.underlying36 (by kernel_rfl) (by kernel_rfl) hd1; have c2 : cs'.toList = (SIG.map fun l => l.map fun (n : Nat) => (n : Int)).flatten.map fun z => Value.int .u8 z := cells_of_tabs Tryz.underlying347 Tryz.underlying346 Tryz.underlying5 (by kernel_rfl) (by kernel_rfl) (by kernel_rfl) (by decide) hd2
 have a1 : cs = eightV:=(by have:=congrArg List.toArray c1;rw [Array.toArray_toList] at this;rw [this];rfl);have a2 : cs' = rowsV:=(by have:=congrArg List.toArray c2;rw [Array.toArray_toList] at this;rw [this];rfl);refine ⟨?_,?_⟩
 ·obtain ⟨t,fr,h⟩:=block_of_var eg hvar;exact ⟨t,fr,by rw [h,a1]⟩
 ·obtain ⟨t,fr,h⟩:=block_of_var eg' hvar';exact ⟨t,fr,by rw [h,a2]⟩
end Go.Proofs.YtdkhnjjihbmlmaaGreatDoor
