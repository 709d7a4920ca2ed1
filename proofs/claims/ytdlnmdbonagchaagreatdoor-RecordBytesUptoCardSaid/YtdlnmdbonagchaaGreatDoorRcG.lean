import Derived.Test.YtdlnmdbonagchaaGreatDoorRcF
namespace Go.Proofs.YtdlnmdbonagchaaGreatDoor
open Go.RowKit
set_option maxRecDepth 100000 in
theorem rnum_any (w : World) (s : List UInt8) : Calls Tryz.prog 33 #[S s] w fun e w' => e = .returned (.int .i64 (num0 s)) ∧ Below w.heap.size w w':=by
 go_enter Tryz.func33,Tryz.ntmps33;go_wp2_with fail;refine (rint_any w s).mono ?_;rintro e w1 ⟨hm,hb⟩;have HN : Hid (num0 s = (intP s).getD 0):=jj rfl;cases hi : intP s with
 | none => rw [hi] at hm;dsimp only at hm;subst hm;rw [hi] at HN;go_wp2_with fail;go_ret;exact ⟨by rw [HN.out];rfl,hb⟩
 | some n => rw [hi] at hm;dsimp only at hm;subst hm;rw [hi] at HN;go_wp2_with fail;go_ret;exact ⟨by rw [HN.out];rfl,hb⟩
def part (t : List UInt8) (k : Nat) : List UInt8:=t.take k ++ Z32.drop k
theorem part_length {t : List UInt8} {k : Nat} (h : k ≤ t.length) (hk : k ≤ 32) : (part t k).length = 32:=by
 unfold part;rw [List.length_append,List.length_take,List.length_drop,Z32_length];omega
theorem part_step {t : List UInt8} {k : Nat} (h : k < t.length) (hk : k < 32) : (part t k).set k (t.getD k 0) = part t (k + 1):=by
 have hz : k < Z32.length:=(by rw [Z32_length];exact hk);unfold part;rw [List.set_append_right _ _ (by rw [List.length_take];omega),List.length_take,Nat.min_eq_left (by omega),Nat.sub_self,List.drop_eq_getElem_cons hz,List.set_cons_zero,List.take_succ_eq_append_getElem h];rw [List.append_assoc,List.getD_eq_getElem?_getD,List.getElem?_eq_getElem h];rfl
theorem part_end {t : List UInt8} {k : Nat} (h : k ≤ t.length) (hk : k ≤ 32) (he : k = 32 ∨ k = t.length) : part t k = dig32 t:=by
 unfold part dig32;have hz : ∀ j,Z32.drop j = List.replicate (32 - j) 0:=fun j => (by unfold Z32;rw [List.drop_replicate]);rw [hz];rcases he with rfl | rfl
 ·rw [show 32 - t.length = 0 by omega];try simp
 ·rw [List.take_of_length_le (by omega),List.take_of_length_le (by omega)]
theorem wp_builtT {P : Program} {o : Oper} {a : Act} {w : World} {K : Act → World → Prop} {Q : Exit → Act → World → Prop} (ty : TypeId) (parts : Array (Nat × Operand)) (ho : o.op = .build ty parts)
  (vals : Array (Nat × Value)) (hp : (parts.map fun (i,x) => (i,a.eval x)) = vals) (v : Value) (hr : (Instr.build ty vals).run P w = .ok v w) (h : K (a.put o.dst v) w) : o.wp P a w K Q:=by
 unfold Oper.wp execOp;simp only [ho,hp,Sem.run_bind,hr,Result.andThen_ok,Sem.run_pure];exact h
theorem wpList_builtT {P : Program} {ops : Array Oper} {rest : List Oper} {o : Oper} {a : Act} {w : World} {Q : Exit → Act → World → Prop} (hgd : o.guard = none) (ty : TypeId) (parts : Array (Nat × Operand)) (ho : o.op = .build ty parts)
  (vals : Array (Nat × Value)) (hp : (parts.map fun (i,x) => (i,a.eval x)) = vals) (v : Value) (hr : (Instr.build ty vals).run P w = .ok v w) (h : wpList P ops Q rest (a.put o.dst v) w) : wpList P ops Q (o :: rest) a w :=
 wpList_plain hgd fun _ hK => wp_builtT ty parts ho vals hp v hr (hK _ _ h)
theorem Tryz.infoDig : (Tryz.prog.info? 23).map (fun i => (i.zero,i.size)) = some (some (.agg (Z32.map B8).toArray),32):=by kernel_rfl
theorem B8s_one (l : List UInt8) : ∀ v ∈ l.map B8,v.oneCell' = true:=by intro v hv;obtain ⟨b,_,rfl⟩:=List.mem_map.1 hv;rfl
theorem build_dig (w : World) : (Instr.build 23 #[]).run Tryz.prog w = .ok (.agg (Z32.map B8).toArray) w:=by kernel_rfl
set_option maxRecDepth 100000 in
set_option maxHeartbeats 2000000 in
theorem rdigest_any (w : World) (s : List UInt8) :
  Calls Tryz.prog 32 #[S s] w fun e w' => e = .returned (.agg ((dig32 s).map B8).toArray) ∧ Below w.heap.size w w':=by
 have HZ0:=jj (Whole.made w 23 (Z32.map B8).toArray);have HW0:=jj ((Below.refl w.heap.size w).alloc (Nat.le_refl _) (.cells (Z32.map B8).toArray 23));go_enter Tryz.func32,Tryz.ntmps32;go_upto_region 1 with (fail);change Code.wp _ _ _ _ (w.alloc (.cells (Z32.map B8).toArray 23));generalize w.alloc (.cells (Z32.map B8).toArray 23) = w1 at *;generalize hgx : w.heap.size = gx at *;have HGX:=jj hgx;clear hgx;have HZ1:=jj (HZ0.out.block (.cells (Z32.map B8).toArray 23));have HY1:=jj (Whole.made w1 23 (Z32.map B8).toArray);have HW1:=jj (HW0.out.alloc (by have:=HZ0.out.lt;omega) (.cells (Z32.map B8).toArray 23));have HG1 : Hid (gx < w1.heap.size):=jj HZ0.out.lt
 go_upto_region 2 with (first
  | (refine wpList_builtT rfl 23 #[] rfl #[] rfl _ (build_dig _) ?_)
  | (refine wpList_fresh rfl rfl 23 3 (.tmp 5) rfl rfl rfl rfl (Z32.map B8) rfl rfl _ Tryz.infoDig rfl (B8s_one Z32) ?_))
 change Code.wp _ _ _ _ (w1.alloc (.cells (Z32.map B8).toArray 23));generalize w1.alloc (.cells (Z32.map B8).toArray 23) = w2 at *;generalize w1.heap.size = gd at *;clear HZ0 HW0;go_wp2_with fail
 go_loopw [4] (fun i wr => ∃ k : Nat,k ≤ 32 ∧ k ≤ s.length ∧ i = .int .i64 k ∧ Hid (Whole wr gd 23 ((part s k).map B8).toArray) ∧ Hid (Whole wr gx 23 (Z32.map B8).toArray) ∧ Hid (Below gx w wr)) (fun i _ => 32 - (intOf i).toNat)
 case atStart => exact ⟨0,by omega,by omega,rfl,HY1,HZ1,HW1⟩
 case round =>
  clear HY1 HZ1 HW1;obtain ⟨k,hk,hks,rfl,HY,HZ,HW⟩:=hrel;have hgg:=HG1.out;by_cases hlt : k < 32
  ·have hd : decide ((k : Int) < 32) = true:=(by simp;omega);have hd' : decide (k < 32) = true:=(by simp;omega);by_cases hls : k < s.length
   ·have he : decide ((k : Int) < (s.length : Int)) = true:=(by simp;omega);have he' : decide (k < s.length) = true:=(by simp;omega);have x1:=run_index_S s .i64 (k : Int) k rfl hls;have P1:=part_length hks hk;have y1 : wr.cell? ⟨gd,k,none⟩ = some (B8 ((part s k).getD k 0)):=(by rw [HY.out.cell,List.getElem?_toArray,List.getElem?_map,List.getD_eq_getElem?_getD,List.getElem?_eq_getElem (by omega)];rfl);have f1:=HY.out.free k;have i0 : (0 : Int) ≤ (k : Int):=(by omega);have i1 : (k : Int) < 32:=(by omega)
    have HYn : Hid (Whole (wr.setCell ⟨gd,k,none⟩ (B8 (s.getD k 0))) gd 23 ((part s (k + 1)).map B8).toArray):=jj (by
     have h1:=HY.out.set k (B8 (s.getD k 0))
     rwa [List.setIfInBounds_toArray,← List.map_set,part_step hls hlt] at h1)
    have HZn:=jj (HZ.out.far (p:=⟨gd,k,none⟩) (by show gx ≠ gd;omega) (B8 (s.getD k 0)));have HWn:=jj (HW.out.setCell (p:=⟨gd,k,none⟩) (by show gx ≤ gd;omega) (B8 (s.getD k 0)));clear P1 HY HZ HW;generalize s.getD k 0 = x at *;go_wp2_with fail;clear x1 y1 f1;generalize wr.setCell _ _ = wn at *;exact ⟨⟨k + 1,by omega,by omega,by go_num,HYn,HZn,HWn⟩,by simp [intOf];omega⟩
   ·have he : decide ((k : Int) < (s.length : Int)) = false:=(by simp;omega);have he' : decide (k < s.length) = false:=(by simp;omega);have HE:=jj (part_end (t:=s) (k:=k) hks hk (.inr (by omega)));rw [HE.out] at HY;clear hlt hls;have HL : Hid ((dig32 s).length = 32):=jj (dig32_len s);have HI : Hid ((Tryz.prog.info? 23).map (·.size) = some ((dig32 s).map B8).length):=jj (by rw [List.length_map,HL.out];kernel_rfl);have HIs : Hid ((Tryz.prog.info? 23).map (·.size) = some ((dig32 s).map B8).toArray.size):=jj (by rw [List.size_toArray];exact HI.out);have HLE : Hid (((dig32 s).map B8).length = (Z32.map B8).length):=jj (by rw [List.length_map,HL.out];rfl)
    go_wp2_with (first
     | (refine wpList_load_row rfl 23 (.tmp 3) rfl gd rfl 23 ((dig32 s).map B8).toArray (0,0) _ HY.out Tryz.underlying23 rfl HIs.out ?_)
     | (refine wpList_store_all rfl 23 (.tmp 2) (.tmp 21) rfl rfl gx rfl ((dig32 s).map B8) rfl HI.out (Z32.map B8) 23 HZ.out HLE.out (B8s_one _) ?_
        intro w9 N9 F9))
    have HB9:=jj (below_grown HW.out F9.out (by have:=HZ.out.lt;omega) (Nat.le_refl _));refine bodyPost_ret (v:=.agg ((dig32 s).map B8).toArray) (results_cell_row rfl _ _ gx 23 _ (0,0) _ rfl N9.out Tryz.underlying23 rfl HIs.out) rfl ⟨rfl,?_⟩;rw [HGX.out];exact HB9.out
  ·have hd : decide ((k : Int) < 32) = false:=(by simp;omega);have hd' : decide (k < 32) = false:=(by simp;omega);have HE:=jj (part_end (t:=s) (k:=k) hks hk (.inl (by omega)));rw [HE.out] at HY;clear hlt;have HL : Hid ((dig32 s).length = 32):=jj (dig32_len s);have HI : Hid ((Tryz.prog.info? 23).map (·.size) = some ((dig32 s).map B8).length):=jj (by rw [List.length_map,HL.out];kernel_rfl);have HIs : Hid ((Tryz.prog.info? 23).map (·.size) = some ((dig32 s).map B8).toArray.size):=jj (by rw [List.size_toArray];exact HI.out);have HLE : Hid (((dig32 s).map B8).length = (Z32.map B8).length):=jj (by rw [List.length_map,HL.out];rfl)
   go_wp2_with (first
    | (refine wpList_load_row rfl 23 (.tmp 3) rfl gd rfl 23 ((dig32 s).map B8).toArray (0,0) _ HY.out Tryz.underlying23 rfl HIs.out ?_)
    | (refine wpList_store_all rfl 23 (.tmp 2) (.tmp 21) rfl rfl gx rfl ((dig32 s).map B8) rfl HI.out (Z32.map B8) 23 HZ.out HLE.out (B8s_one _) ?_
       intro w9 N9 F9))
   have HB9:=jj (below_grown HW.out F9.out (by have:=HZ.out.lt;omega) (Nat.le_refl _));refine bodyPost_ret (v:=.agg ((dig32 s).map B8).toArray) (results_cell_row rfl _ _ gx 23 _ (0,0) _ rfl N9.out Tryz.underlying23 rfl HIs.out) rfl ⟨rfl,?_⟩;rw [HGX.out];exact HB9.out
theorem rowB_sum : ∀ ls : List (List UInt8),ls.length + (ls.map List.length).sum ≤ (rowB ls).length
 | [] => Nat.le_refl _
 | l :: ls => by
  have ih:=rowB_sum ls;have:=List.length_pos_iff.2 (lenB_ne l.length);rw [rowB_cons];simp only [List.length_append,List.length_cons,List.map_cons,List.sum_cons] at *;omega
theorem rin_len {r : List UInt8} {p : InP} (h : rowP rinP r = some p) : p.2.1.length ≤ r.length:=by
 unfold rowP at h;split at h
 case h_2 => cases h
 rename_i ls ht;unfold rinP at h;split at h
 case h_2 => cases h
 injection h with h;subst h;exact texts_mem ht _ (by simp)
theorem rout_len {r : List UInt8} {p : OutP} (h : rowP routP r = some p) : p.2.length ≤ r.length:=by
 unfold rowP at h;split at h
 case h_2 => cases h
 rename_i ls ht;unfold routP at h;split at h
 case h_2 => cases h
 injection h with h;subst h;exact texts_mem ht _ (by simp)
theorem inSz_rows : ∀ {li : List (List UInt8)} {i : List InP},mapO (rowP rinP) li = some i → inSz i ≤ 100 * li.length + 2 * (li.map List.length).sum
 | [],i,h => by injection h with h;subst h;exact Nat.zero_le _
 | x :: li,i,h => by
  rw [mapO] at h;cases hx : rowP rinP x with
  | none => rw [hx] at h;cases h
  | some a =>
   cases hl : mapO (rowP rinP) li with
   | none => rw [hx,hl] at h;cases h
   | some y => rw [hx,hl] at h;injection h with h;subst h;have ih:=inSz_rows hl;have h1:=rin_len hx;have e : inSz (a :: y) = 100 + 2 * a.2.1.length + inSz y:=(by simp [inSz]);simp only [List.length_cons,List.map_cons,List.sum_cons];omega
theorem outSz_rows : ∀ {li : List (List UInt8)} {i : List OutP},mapO (rowP routP) li = some i → outSz i ≤ 100 * li.length + 2 * (li.map List.length).sum
 | [],i,h => by injection h with h;subst h;exact Nat.zero_le _
 | x :: li,i,h => by
  rw [mapO] at h;cases hx : rowP routP x with
  | none => rw [hx] at h;cases h
  | some a =>
   cases hl : mapO (rowP routP) li with
   | none => rw [hx,hl] at h;cases h
   | some y => rw [hx,hl] at h;injection h with h;subst h;have ih:=outSz_rows hl;have h1:=rout_len hx;have e : outSz (a :: y) = 100 + 2 * a.2.length + outSz y:=(by simp [outSz]);simp only [List.length_cons,List.map_cons,List.sum_cons];omega
end Go.Proofs.YtdlnmdbonagchaaGreatDoor
