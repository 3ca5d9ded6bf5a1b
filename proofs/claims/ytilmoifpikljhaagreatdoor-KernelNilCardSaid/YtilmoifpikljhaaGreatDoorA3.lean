/-
  THE ABSTRACT INTERPRETER, STEP BY STEP: what each small step of 'ev' says of the world.
-/
import Derived.Test.YtilmoifpikljhaaGreatDoorA2
import Derived.Laws.Slices
import Derived.Laws.StructEq
set_option linter.unusedVariables false
set_option linter.unusedSimpArgs false
namespace Go.Ai
open Go

section inv
variable {R : Type} {out : R}
theorem cellsAt_inv {h : Heap} {l : Nat} {k : List AV → Option R} (e : cellsAt h l k = some out) : ∃ cs, (h.get l = some (.cells cs) ∨ h.get l = some (.tab cs)) ∧ k cs = some out := by
  unfold cellsAt at e
  split at e
  · rename_i cs hg; exact ⟨cs, .inl hg, e⟩
  · rename_i cs hg; exact ⟨cs, .inr hg, e⟩
  · cases e
theorem rowAt_inv {h : Heap} {l : Nat} {k : List AV → Option R} (e : rowAt h l k = some out) : ∃ cs, h.get l = some (.cells cs) ∧ k cs = some out := by
  unfold rowAt at e
  split at e
  · rename_i cs hg; exact ⟨cs, hg, e⟩
  · cases e
theorem mapAt_inv {h : Heap} {l : Nat} {k : List (AV × AV) → Option R} (e : mapAt h l k = some out) : ∃ cs, h.get l = some (.map cs) ∧ k cs = some out := by
  unfold mapAt at e
  split at e
  · rename_i cs hg; exact ⟨cs, hg, e⟩
  · cases e
theorem get1_inv {o : Option AV} {k : AV → Option R} (e : get1 o k = some out) : ∃ v, o = some v ∧ k v = some out := by
  unfold get1 at e
  split at e
  · exact ⟨_, rfl, e⟩
  · cases e
theorem getL_inv {o : Option (List AV)} {k : List AV → Option R} (e : getL o k = some out) : ∃ v, o = some v ∧ k v = some out := by
  unfold getL at e
  split at e
  · exact ⟨_, rfl, e⟩
  · cases e
theorem bif_inv {b : Bool} {x : Option R} (e : (bif b then x else none) = some out) : b = true ∧ x = some out := by
  cases b
  · cases e
  · exact ⟨rfl, e⟩
theorem aggB_inv {P : Program} {t : TypeId} {x y : Option R} (e : aggB P t x y = some out) :
    (∃ d, P.underlying t = some d ∧ (∀ w, (isAgg t).run P w = .ok true w) ∧ x = some out) ∨ (∃ d, P.underlying t = some d ∧ (∀ w, (isAgg t).run P w = .ok false w) ∧ y = some out) := by
  unfold aggB at e
  split at e
  · rename_i fs h; exact .inl ⟨_, h, fun w => by simp [isAgg, run_underlying h], e⟩
  · rename_i n el h; exact .inl ⟨_, h, fun w => by simp [isAgg, run_underlying h], e⟩
  · rename_i d h1 h2 h; exact .inr ⟨_, h, fun w => by
      simp only [isAgg, Sem.run_bind, run_underlying h, Result.andThen_ok]
      cases d <;> first | rfl | exact absurd h (by simpa using h1 _) | exact absurd h (by simpa using h2 _ _), e⟩
  · cases e
end inv
theorem info_of_und {P : Program} {t : TypeId} {d : TypeDesc} (h : P.underlying t = some d) : ∃ i, P.info? t = some i := by
  unfold Program.underlying at h
  split at h
  · rename_i hi; exact ⟨_, hi⟩
  · rename_i hi; exact ⟨_, hi⟩
  · cases h
theorem info_of_sz {P : Program} {t : TypeId} (h : Nat.blt 0 (szOf P t) = true) : ∃ i, P.info? t = some i ∧ i.size = szOf P t ∧ i.bytes = byOf P t := by
  unfold szOf at h ⊢
  unfold byOf
  split at h
  · rename_i i hi; exact ⟨i, hi, rfl, rfl⟩
  · simp at h
theorem szOf_info {P : Program} {t : TypeId} {i : TypeInfo} (h : P.info? t = some i) : szOf P t = i.size ∧ byOf P t = i.bytes := by simp [szOf, byOf, h]
theorem run_sizeOf' {P : Program} {t : TypeId} {i : TypeInfo} (h : P.info? t = some i) (w : World) : (sizeOf t).run P w = .ok (szOf P t) w := by
  simp [sizeOf, typeInfo, h, szOf]
theorem run_typeInfo' {P : Program} {t : TypeId} {i : TypeInfo} (h : P.info? t = some i) (w : World) : (typeInfo t).run P w = .ok i w := by
  simp [typeInfo, h]
theorem Addr.add_eq (b o i : Nat) : (⟨b, o, none⟩ : Addr).add i = ⟨b, o + i, none⟩ := by
  unfold Addr.add
  split
  · rename_i h; subst h; rfl
  · rfl
theorem zeroT_run {P : Program} {t : TypeId} {z : List AV} (h : zeroT P t = some z) : ∃ i v, P.info? t = some i ∧ i.zero = some v ∧ cellsOf (ofV v) = some z ∧ ∀ w, (zeroValue t).run P w = .ok v w := by
  unfold zeroT at h
  split at h
  · rename_i i hi
    split at h
    · rename_i v hv; exact ⟨i, v, hi, hv, h, fun w => by simp [zeroValue, typeInfo, hi, hv]⟩
    · cases h
  · cases h
theorem cellsOf_rel {β : Be} {a : AV} {v : Value} {cs : List AV} (h : VRel β a v) (e : cellsOf a = some cs) : VRels β cs v.cells.toList := by
  cases a <;> simp only [cellsOf] at e <;> (try cases e) <;>
    first
      | (have := (cell1_rel h rfl).2; rw [this]; exact VRels.cons h VRels.nil)
      | (simp only [VRel] at h; obtain ⟨x, rfl, hx⟩ := h; exact hx)

section
variable {C : Ctx} {β : Be} {h : Heap} {w : World}
theorem toArr (pre mid post : List Value) (i : Nat) (hi : i < mid.length) : (pre ++ (mid ++ post)).toArray[pre.length + i]? = mid[i]? := by
  simp [List.getElem?_append_right, List.getElem?_append_left, hi]
/-- a row, written or not -/
theorem row_of (r : HRel C β h w) {l : Nat} {p : Pl} {cs : List AV} (e : β l = some p) (g : h.get l = some (.cells cs) ∨ h.get l = some (.tab cs)) :
    ∃ pre mid post elem fr, w.heap[p.b]? = some (.cells (pre ++ (mid ++ post)).toArray elem fr) ∧ pre.length = p.o ∧ (pre ++ (mid ++ post)).length = p.n ∧ VRels β cs mid ∧ all1 cs = true := by
  rcases g with g | g
  · obtain ⟨pre, mid, post, elem, h1, h2⟩ := r.obj l p _ e g
    exact ⟨pre, mid, post, elem, _, h1, h2⟩
  · exact r.obj l p _ e g
/-- one cell -/
theorem cell_of (r : HRel C β h w) {l : Nat} {p : Pl} {cs : List AV} {o : Nat} {u : AV} (e : β l = some p) (g : h.get l = some (.cells cs) ∨ h.get l = some (.tab cs)) (hu : nth cs o = some u) :
    ∃ x, w.cell? ⟨p.b, p.o + o, none⟩ = some x ∧ VRel β u x ∧ cell1 u = true := by
  obtain ⟨pre, mid, post, elem, fr, hb, hpre, hn, hr, ha⟩ := row_of r e g
  rw [nth_eq] at hu
  obtain ⟨x, hx, hv⟩ := hr.get hu
  have hlt : o < mid.length := (List.getElem?_eq_some_iff.1 hx).1
  refine ⟨x, ?_, hv, all1_get ha hu⟩
  simp only [World.cell?, hb]
  rw [← hpre]
  simpa [hx] using toArr pre mid post o hlt
/-- some cells -/
theorem cells_of {P : Program} (r : HRel C β h w) {l : Nat} {p : Pl} {cs : List AV} {o n : Nat} {us : List AV} (e : β l = some p) (g : h.get l = some (.cells cs) ∨ h.get l = some (.tab cs)) (hu : sub cs o n = some us) :
    ∃ xs : List Value, (loadCells ⟨p.b, p.o + o, none⟩ n).run P w = .ok xs.toArray w ∧ VRels β us xs ∧ all1 us = true ∧ xs.length = n := by
  obtain ⟨hle, rfl⟩ := sub_eq cs o n us hu
  by_cases hn : n = 0
  · subst hn
    exact ⟨[], by simp [loadCells, loadCellsFrom], by simp [VRels.nil], by simp [all1], rfl⟩
  have hle : o + n ≤ cs.length := by omega
  obtain ⟨pre, mid, post, elem, fr, hb, hpre, hsz, hr, ha⟩ := row_of r e g
  have hml := hr.length
  refine ⟨(mid.drop o).take n, ?_, (hr.drop o).take n, ?_, by simp; omega⟩
  · have hlen : ((mid.drop o).take n).length = n := by simp; omega
    have := run_loadCells_list (P := P) w ⟨p.b, p.o + o, none⟩ ((mid.drop o).take n) (by
      intro j v hj
      rw [Addr.add_eq]
      have hjn : j < n := by
        have := (List.getElem?_eq_some_iff.1 hj).1
        omega
      have hv : mid[o + j]? = some v := by simpa [List.getElem?_take, hjn] using hj
      simp only [World.cell?, hb]
      rw [← hpre, Nat.add_assoc]
      have := toArr pre mid post (o + j) ((List.getElem?_eq_some_iff.1 hv).1)
      rw [hv] at this
      simpa using this)
    rwa [hlen] at this
  · exact all1_of fun a ha' => all1_mem ha a (List.mem_of_mem_drop (List.mem_of_mem_take ha'))
theorem list_over (pre mid post xs : List Value) (o : Nat) (h : o + xs.length ≤ mid.length) :
    (pre ++ (mid ++ post)).take (pre.length + o) ++ xs ++ (pre ++ (mid ++ post)).drop (pre.length + o + xs.length) = pre ++ ((mid.take o ++ (xs ++ mid.drop (o + xs.length))) ++ post) := by
  rw [List.take_append, List.drop_append, List.take_append, List.drop_append]
  simp only [List.take_of_length_le (show pre.length ≤ pre.length + o by omega), Nat.add_sub_cancel_left,
    List.drop_of_length_le (show pre.length ≤ pre.length + o + xs.length by omega), List.nil_append]
  have h1 : o - mid.length = 0 := by omega
  have h2 : pre.length + o + xs.length - pre.length = o + xs.length := by omega
  have h3 : o + xs.length - mid.length = 0 := by omega
  simp [h1, h2, h3, List.append_assoc]
/-- cells that are written -/
theorem write_cells {P : Program} (r : HRel C β h w) {l : Nat} {p : Pl} {cs cs' : List AV} {o : Nat} {us : List AV} {xs : List Value} (e : β l = some p) (g : h.get l = some (.cells cs)) (hu : over cs o us = some cs')
    (hx : VRels β us xs) (ha : all1 us = true) :
    ∃ w', (storeCells ⟨p.b, p.o + o, none⟩ xs).run P w = .ok () w' ∧ HRel C β (h.set l (.cells cs')) w' ∧ Ext β h w β (h.set l (.cells cs')) w' := by
  obtain ⟨hle, rfl⟩ := over_eq cs o us cs' hu
  obtain ⟨pre, mid, post, elem, hb, hpre, hsz, hr, hc⟩ := r.obj l p _ e g
  have hml := hr.length
  have hxl := hx.length
  have hst := run_storeCells_at P p.b (p.o + o) elem xs 0 (pre ++ (mid ++ post)).toArray w hb (by simp; omega) (all1_rel hx ha)
  have hlist := list_over pre mid post xs o (by omega)
  have hblt : p.b < w.heap.size := r.lt l p e
  obtain ⟨H, hH⟩ : ∃ H : Array Go.Obj, H = (w.setRow p.b (pre ++ ((mid.take o ++ (xs ++ mid.drop (o + xs.length))) ++ post)).toArray).heap := ⟨_, rfl⟩
  have hrow : w.setRow p.b (((pre ++ (mid ++ post)).toArray.toList.take (p.o + o + 0) ++ xs ++ (pre ++ (mid ++ post)).toArray.toList.drop (p.o + o + 0 + xs.length)).toArray) = { w with heap := H } := by
    rw [hH]
    simp only [Nat.add_zero, ← hpre, hlist]
    rfl
  rw [hrow] at hst
  have hHb : H[p.b]? = some (.cells (pre ++ ((mid.take o ++ (xs ++ mid.drop (o + xs.length))) ++ post)).toArray elem (0, 0)) := by
    rw [hH]; simp [World.setRow, Array.getElem?_modify, hb]
  have hput := r.put (o' := .cells (cs.take o ++ (us ++ cs.drop (o + us.length)))) e g (fun _ => by simp) (H := H) (by rw [hH]; simp [World.setRow])
    (fun b hne => by rw [hH]; simp [World.setRow, Array.getElem?_modify, Ne.symm hne])
    ⟨pre, mid.take o ++ (xs ++ mid.drop (o + xs.length)), post, elem, hHb, hpre, by rw [← hsz]; simp; omega,
      (hr.take o).append (hx.append (by rw [← hxl]; exact hr.drop _)), all1_of (by
        intro a h'
        simp only [List.mem_append] at h'
        rcases h' with h' | h' | h'
        · exact all1_mem hc a (List.mem_of_mem_take h')
        · exact all1_mem ha a h'
        · exact all1_mem hc a (List.mem_of_mem_drop h'))⟩
  exact ⟨_, hst, hput.1, hput.2⟩
/-- a new row -/
theorem new_cells (r : HRel C β h w) {us : List AV} {xs : List Value} (hx : VRels β us xs) (ha : all1 us = true) (elem : TypeId) (rest : List Value) :
    ∃ β', β' h.next = some ⟨w.heap.size, 0, xs.length + rest.length⟩ ∧ HRel C β' (h.push (.cells us)) (w.alloc (.cells (xs ++ rest).toArray elem)) ∧ Ext β h w β' (h.push (.cells us)) (w.alloc (.cells (xs ++ rest).toArray elem)) := by
  have hs := Be.sub_put r ⟨w.heap.size, 0, xs.length + rest.length⟩
  have := r.alloc (.cells us) (.cells (xs ++ rest).toArray elem) (xs.length + rest.length)
    ⟨[], xs, rest, elem, by simp, rfl, by simp, hx.mono hs, ha⟩
  exact ⟨_, Be.put_self _ _ _, this.1, this.2⟩
end
end Go.Ai
/-
  THE ABSTRACT INTERPRETER: loads, stores, addresses, new rows, sums and comparisons: what each says of the model's own instruction.
-/
namespace Go.Ai
open Go

section
variable {R : Type} {out : R} {C : Ctx} {β : Be} {h : Heap} {w : World} {k : AV → Heap → Option R}
/-- It came to x in w', and the rest comes to 'out' from there on. -/
def Done (C : Ctx) (β : Be) (h : Heap) (w : World) (k : AV → Heap → Option R) (out : R) (x : Value) (w' : World) : Prop :=
  ∃ β' u h', k u h' = some out ∧ VRel β' u x ∧ HRel C β' h' w' ∧ Ext β h w β' h' w'
theorem done_same {u : AV} {x : Value} (r : HRel C β h w) (e : k u h = some out) (hv : VRel β u x) : Done C β h w k out x w := ⟨β, u, h, e, hv, r, Ext.refl _ _ _⟩
theorem ptr_inv {l o : Nat} {v : Value} (hv : VRel β (.ptr l o) v) : ∃ p, β l = some p ∧ v = .pointer (some ⟨p.b, p.o + o, none⟩) := by simpa [VRel] using hv
theorem ld_ok {a : AV} {v : Value} {k : AV → Option R} (r : HRel C β h w) (hv : VRel β a v) (e : ld h a k = some out) :
    ∃ ad u x, v = .pointer (some ad) ∧ w.cell? ad = some x ∧ VRel β u x ∧ cell1 u = true ∧ k u = some out := by
  unfold ld at e
  split at e
  · rename_i l o
    obtain ⟨cs, g, e⟩ := cellsAt_inv e
    obtain ⟨u, hu, e⟩ := get1_inv e
    obtain ⟨p, hp, rfl⟩ := ptr_inv hv
    obtain ⟨x, hx, hr, h1⟩ := cell_of r hp g hu
    exact ⟨_, u, x, rfl, hx, hr, h1, e⟩
  · cases e
theorem ldn_ok {n : Nat} {a : AV} {v : Value} {k : AV → Option R} (r : HRel C β h w) (hv : VRel β a v) (e : ldn n h a k = some out) :
    ∃ ad us xs, v = .pointer (some ad) ∧ (loadCells ad n).run C.P w = .ok xs w ∧ VRels β us xs.toList ∧ all1 us = true ∧ xs.size = n ∧ k (.agg us) = some out := by
  unfold ldn at e
  split at e
  · rename_i l o
    obtain ⟨cs, g, e⟩ := cellsAt_inv e
    obtain ⟨us, hu, e⟩ := getL_inv e
    obtain ⟨p, hp, rfl⟩ := ptr_inv hv
    obtain ⟨xs, hx, hr, h1, hn⟩ := cells_of (P := C.P) r hp g hu
    exact ⟨_, us, xs.toArray, rfl, hx, by simpa using hr, h1, by simpa using hn, e⟩
  · cases e
/-- a variable that is read -/
theorem loadVar_ok {t : TypeId} {a : AV} {v : Value} (r : HRel C β h w) (hv : VRel β a v) (e : aggB C.P t (ldn (szOf C.P t) h a fun u => k u h) (ld h a fun u => k u h) = some out) :
    ∃ ad x, v = .pointer (some ad) ∧ (loadVar t ad).run C.P w = .ok x w ∧ Done C β h w k out x w := by
  rcases aggB_inv e with ⟨d, hd, ha, e⟩ | ⟨d, hd, ha, e⟩
  · obtain ⟨ad, us, xs, rfl, hx, hr, h1, hn, e⟩ := ldn_ok r hv e
    obtain ⟨i, hi⟩ := info_of_und hd
    refine ⟨ad, .agg xs, rfl, ?_, done_same r e (by simp only [VRel]; exact ⟨xs, rfl, hr⟩)⟩
    simp [loadVar, ha, run_sizeOf' hi, hx]
  · obtain ⟨ad, u, x, rfl, hx, hr, h1, e⟩ := ld_ok r hv e
    refine ⟨ad, x, rfl, ?_, done_same r e hr⟩
    simp [loadVar, ha, hx]
theorem loadAt_ok {t : TypeId} {a : AV} {v : Value} (r : HRel C β h w) (hv : VRel β a v) (e : aggB C.P t (ldn (szOf C.P t) h a fun u => k u h) (ld h a fun u => k u h) = some out) :
    ∃ x, (Instr.loadAt t v).run C.P w = .ok x w ∧ Done C β h w k out x w := by
  obtain ⟨ad, x, rfl, hx, hd⟩ := loadVar_ok r hv e
  exact ⟨x, by simp [Instr.loadAt, Instr.sureAddr, hx], hd⟩
theorem putL_ok {l o : Nat} {vs : List AV} {xs : List Value} {p : Pl} {k : Heap → Option R} (r : HRel C β h w) (hp : β l = some p) (hv : VRels β vs xs) (e : putL h l o vs k = some out) :
    ∃ w' h', (storeCells ⟨p.b, p.o + o, none⟩ xs).run C.P w = .ok () w' ∧ HRel C β h' w' ∧ Ext β h w β h' w' ∧ k h' = some out := by
  unfold putL at e
  obtain ⟨ha, e⟩ := bif_inv e
  obtain ⟨cs, g, e⟩ := rowAt_inv e
  obtain ⟨cs', hc, e⟩ := getL_inv e
  obtain ⟨w', hs, h1, h2⟩ := write_cells (P := C.P) r hp g hc hv ha
  exact ⟨w', _, hs, h1, h2, e⟩
theorem storeAt_ok {t : TypeId} {a y : AV} {v z : Value} (r : HRel C β h w) (hv : VRel β a v) (hz : VRel β y z)
    (e : aggB C.P t (stn (szOf C.P t) h a y fun h => k (.tup []) h) (bif Nat.beq (szOf C.P t) 1 then st h a y fun h => k (.tup []) h else none) = some out) :
    ∃ w', (Instr.storeAt t v z).run C.P w = .ok () w' ∧ Done C β h w k out Go.undef w' := by
  have fin : ∀ (l o : Nat) (vs : List AV) (xs : List Value) (p : Pl), β l = some p → VRels β vs xs → z.cells.toList = xs → z.cells.size = szOf C.P t → (∃ i, C.P.info? t = some i) →
      putL h l o vs (fun h => k (.tup []) h) = some out → v = .pointer (some ⟨p.b, p.o + o, none⟩) → ∃ w', (Instr.storeAt t v z).run C.P w = .ok () w' ∧ Done C β h w k out Go.undef w' := by
    rintro l o vs xs p hp hx hz1 hz2 ⟨i, hi⟩ e rfl
    obtain ⟨w', h', hs, h1, h2, e⟩ := putL_ok r hp hx e
    refine ⟨w', ?_, β, .tup [], h', e, VRel.undef, h1, h2⟩
    simp [Instr.storeAt, Instr.sureAddr, storeVar, run_sizeOf' hi, hz2, hz1, hs]
  have e0 := aggB_inv e
  clear e
  rcases e0 with ⟨d, hd, _, e⟩ | ⟨d, hd, _, e⟩
  · unfold stn at e
    split at e
    · rename_i l o vs
      obtain ⟨hn, e⟩ := bif_inv e
      obtain ⟨p, hp, rfl⟩ := ptr_inv hv
      simp only [VRel] at hz
      obtain ⟨x, rfl, hx⟩ := hz
      have hn := Nat.eq_of_beq_eq_true hn
      exact fin l o vs x.toList p hp hx (by simp [Value.cells]) (by have := hx.length; simp [Value.cells] at this ⊢; omega) (info_of_und hd) e rfl
    · cases e
  · obtain ⟨hn, e⟩ := bif_inv e
    have hn := Nat.eq_of_beq_eq_true hn
    unfold st at e
    split at e
    · rename_i l o _
      obtain ⟨p, hp, rfl⟩ := ptr_inv hv
      have h1 : cell1 y = true := by
        unfold putL at e
        obtain ⟨ha, _⟩ := bif_inv e
        simp only [all1] at ha
        exact (bif_inv (x := some ()) (out := ()) (b := cell1 y) (by cases hc : cell1 y <;> simp [hc] at ha ⊢)).1
      have hc := (cell1_rel hz h1).2
      exact fin l o [y] [z] p hp (VRels.cons hz VRels.nil) (by rw [hc]) (by rw [hc, hn]; rfl) (info_of_und hd) e rfl
    · cases e
/-- a new row -/
theorem mk_ok {cs : List AV} {xs : List Value} (t : TypeId) (r : HRel C β h w) (hx : VRels β cs xs) (e : mk h cs k = some out) :
    ∃ w', (newRow t xs.toArray).run C.P w = .ok ⟨w.heap.size, 0, none⟩ w' ∧ Done C β h w k out (.pointer (some ⟨w.heap.size, 0, none⟩)) w' := by
  unfold mk at e
  obtain ⟨ha, e⟩ := bif_inv e
  obtain ⟨β', hb, h1, h2⟩ := new_cells r hx ha t []
  refine ⟨w.alloc (.cells xs.toArray t), by simp [newRow], β', .ptr h.next 0, _, e, ?_, by simpa using h1, by simpa using h2⟩
  simp only [VRel]
  exact ⟨_, hb, by simp⟩
theorem mkSlice_ok {cs : List AV} {xs rest : List Value} {n sz : Nat} {c : Option Nat} (t : TypeId) (m : Nat) (r : HRel C β h w) (hx : VRels β cs xs) (hm : n ≤ m) (hc : ∀ x, c = some x → m = x) (hsz : m * sz ≤ xs.length + rest.length)
    (e : mkSlice h cs n sz c k = some out) :
    ∃ w', (newRow t (xs ++ rest).toArray).run C.P w = .ok ⟨w.heap.size, 0, none⟩ w' ∧ Done C β h w k out (.slice (some ⟨w.heap.size, 0, none⟩) n m) w' := by
  unfold mkSlice at e
  obtain ⟨ha, e⟩ := bif_inv e
  obtain ⟨β', hb, h1, h2⟩ := new_cells r hx ha t rest
  refine ⟨_, by simp only [newRow, Sem.run_bind, run_newObj, Result.andThen_ok, Sem.run_pure]; rfl, β', .slice h.next 0 n c sz, _, e, ?_, h1, h2⟩
  simp only [VRel]
  exact ⟨_, hb, _, m, rfl, hm, hc, rfl, rfl, fun _ => rfl, by simpa using hsz⟩
theorem natOf_inv {a : AV} {v : Value} {n : Nat} (hv : VRel β a v) (e : natOf a = some n) : ∃ q, v = .int q (n : Int) := by
  unfold natOf at e
  split at e
  · cases e; simp only [VRel] at hv; exact ⟨_, hv⟩
  · cases e
theorem blt_lt {a b : Nat} (h : Nat.blt a b = true) : a < b := by
  unfold Nat.blt at h; exact Nat.le_of_ble_eq_true h
theorem ble_le {a b : Nat} (h : Nat.ble a b = true) : a ≤ b := Nat.le_of_ble_eq_true h
theorem beq_eq {a b : Nat} (h : Nat.beq a b = true) : a = b := Nat.eq_of_beq_eq_true h
theorem slice_inv {l o n : Nat} {c : Option Nat} {z : Nat} {v : Value} (hv : VRel β (.slice l o n c z) v) :
    ∃ p, β l = some p ∧ ∃ a m, v = .slice (some a) n m ∧ n ≤ m ∧ (∀ x, c = some x → m = x) ∧ a.block = p.b ∧ a.spot = none ∧ (m ≠ 0 → a.off = p.o + o) ∧ p.o + o + m * z ≤ p.n := by simpa only [VRel] using hv
theorem addr_of {a : Addr} {b o : Nat} (h1 : a.block = b) (h2 : a.spot = none) (h3 : a.off = o) : a = ⟨b, o, none⟩ := by cases a; simp_all
/-- the address of an element -/
theorem indexAt_slice_ok {t e : TypeId} {x i : AV} {v q : Value} (r : HRel C β h w) (ht : C.P.underlying t = some (.slice e)) (hs : Nat.blt 0 (szOf C.P e) = true) (hv : VRel β x v) (hq : VRel β i q)
    (ev : ixS (szOf C.P e) x i (fun u => k u h) = some out) : ∃ y, (Instr.indexAt t v q).run C.P w = .ok y w ∧ Done C β h w k out y w := by
  unfold ixS at ev
  split at ev
  · rename_i l o n c s j hj
    obtain ⟨h1, ev⟩ := bif_inv ev
    obtain ⟨h2, ev⟩ := bif_inv ev
    have h2 := blt_lt h2
    obtain ⟨kq, rfl⟩ := natOf_inv hq hj
    obtain ⟨p, hp, a, m, rfl, hnm, _, hb, hsp, hoff, _⟩ := slice_inv hv
    have ha := addr_of hb hsp (hoff (by omega))
    obtain ⟨info, hi, _⟩ := info_of_sz hs
    refine ⟨_, ?_, done_same r ev (x := .pointer (some ⟨p.b, p.o + (o + j * szOf C.P e), none⟩)) (by simp only [VRel]; exact ⟨p, hp, rfl⟩)⟩
    subst ha
    simp [Instr.indexAt, asIntOf, run_underlying ht, h2, run_sizeOf' hi, Addr.add_eq, Nat.add_assoc]
  · cases ev
theorem indexAt_array_ok {t e : TypeId} {n : Nat} {x i : AV} {v q : Value} (r : HRel C β h w) (ht : C.P.underlying t = some (.array n e)) (hs : Nat.blt 0 (szOf C.P e) = true) (hv : VRel β x v) (hq : VRel β i q)
    (ev : ixA n (szOf C.P e) x i (fun u => k u h) = some out) : ∃ y, (Instr.indexAt t v q).run C.P w = .ok y w ∧ Done C β h w k out y w := by
  unfold ixA at ev
  split at ev
  · rename_i l o j hj
    obtain ⟨h2, ev⟩ := bif_inv ev
    have h2 := blt_lt h2
    obtain ⟨kq, rfl⟩ := natOf_inv hq hj
    obtain ⟨p, hp, rfl⟩ := ptr_inv hv
    obtain ⟨info, hi, _⟩ := info_of_sz hs
    refine ⟨_, ?_, done_same r ev (x := .pointer (some ⟨p.b, p.o + (o + j * szOf C.P e), none⟩)) (by simp only [VRel]; exact ⟨p, hp, rfl⟩)⟩
    simp [Instr.indexAt, Instr.sureAddr, asIntOf, run_underlying ht, h2, run_sizeOf' hi, Addr.add_eq, Nat.add_assoc]
  · cases ev
theorem fieldAt_ok {t : TypeId} {fs : Array Field} {f : Nat} {fd : Field} {x : AV} {v : Value} (r : HRel C β h w) (ht : C.P.underlying t = some (.struct fs)) (hf : fs.toList[f]? = some fd) (hs : Nat.blt 0 (szOf C.P fd.type) = true)
    (hv : VRel β x v) (ev : fa fd.offset x (fun u => k u h) = some out) : ∃ y, (Instr.fieldAt t v f).run C.P w = .ok y w ∧ Done C β h w k out y w := by
  unfold fa at ev
  split at ev
  · rename_i l o
    obtain ⟨p, hp, rfl⟩ := ptr_inv hv
    obtain ⟨info, hi, _⟩ := info_of_sz hs
    have hs := blt_lt hs
    refine ⟨_, ?_, done_same r ev (x := .pointer (some ⟨p.b, p.o + (o + fd.offset), none⟩)) (by simp only [VRel]; exact ⟨p, hp, rfl⟩)⟩
    have hf' : fs[f]? = some fd := by simpa using hf
    have hne : szOf C.P fd.type ≠ 0 := by omega
    simp [Instr.fieldAt, run_underlying ht, hf', Instr.sureAddr, fieldPlace, run_sizeOf' hi, hne, Addr.add_eq, Nat.add_assoc]
  · cases ev
theorem nil_ok {x : AV} {v : Value} {k : AV → Option R} (hv : VRel β x v) (e : nil? x k = some out) : (∃ a, v = .pointer (some a)) ∨ (∃ f a b, v = .func (.func f) a b) ∨ (∃ l, v = .func (.yield l) #[] #[]) := by
  unfold nil? at e
  split at e
  · obtain ⟨p, hp, rfl⟩ := ptr_inv hv; exact .inl ⟨_, rfl⟩
  · simp only [VRel] at hv; obtain ⟨a, b, rfl, _⟩ := hv; exact .inr (.inl ⟨_, a, b, rfl⟩)
  · simp only [VRel] at hv; obtain ⟨a, b, rfl⟩ := hv; exact .inr (.inr ⟨_, rfl⟩)
  · cases e
theorem nil_val {x : AV} {k : AV → Option R} (e : nil? x k = some out) : k x = some out := by
  unfold nil? at e
  split at e <;> first | exact e | cases e
end
end Go.Ai
/-
  THE ABSTRACT INTERPRETER: numbers, comparisons, parts of rows, slices, texts: what each says of the model's own instruction.
-/
namespace Go.Ai
open Go

/-! ### Numbers -/
theorem keq_eq {a b : IntKind} (h : keq a b = true) : a = b := by
  cases a <;> cases b <;> first | rfl | (simp [keq, idx] at h)
theorem wrap_i64_in {n : Int} (h1 : -9223372036854775808 ≤ n) (h2 : n ≤ 9223372036854775807) : IntKind.i64.wrap n = n := by
  have e1 : (2 ^ IntKind.i64.bits : Int) = 18446744073709551616 := by decide
  have e2 : (2 ^ (IntKind.i64.bits - 1) : Int) = 9223372036854775808 := by decide
  have e3 : IntKind.i64.signed = true := rfl
  unfold IntKind.wrap
  simp only [e1, e2, e3, Bool.true_and]
  by_cases hn : 0 ≤ n
  · have hm : n % 18446744073709551616 = n := by omega
    have hd : ¬ (n ≥ 9223372036854775808) := by omega
    simp [hm, hd]
  · have hm : n % 18446744073709551616 = n + 18446744073709551616 := by omega
    have hd : n + 18446744073709551616 ≥ 9223372036854775808 := by omega
    simp [hm, hd]
theorem wrap_u64 (n : Int) : IntKind.u64.wrap n = n % 18446744073709551616 := by
  have e1 : (2 ^ IntKind.u64.bits : Int) = 18446744073709551616 := by decide
  have e3 : IntKind.u64.signed = false := rfl
  unfold IntKind.wrap
  simp [e1, e3]
theorem wrap_u8 (n : Int) : IntKind.u8.wrap n = n % 256 := by
  have e1 : (2 ^ IntKind.u8.bits : Int) = 256 := by decide
  have e3 : IntKind.u8.signed = false := rfl
  unfold IntKind.wrap
  simp [e1, e3]
theorem wr_eq (k : IntKind) (n : Int) : wr k n = k.wrap n := by
  unfold wr
  split
  · rename_i m
    cases hb : Nat.blt m 9223372036854775808
    · exact cond_false _ _
    · have h1 : IntKind.i64.wrap (.ofNat m) = .ofNat m := by
        have := blt_lt hb
        exact wrap_i64_in (by simp only [Int.ofNat_eq_natCast]; omega) (by simp only [Int.ofNat_eq_natCast]; omega)
      rw [h1]; exact cond_true _ _
  · rename_i m
    cases hb : Nat.blt m 9223372036854775808
    · exact cond_false _ _
    · have h1 : IntKind.i64.wrap (.negSucc m) = .negSucc m := by
        have := blt_lt hb
        exact wrap_i64_in (by rw [Int.negSucc_eq]; omega) (by rw [Int.negSucc_eq]; omega)
      rw [h1]; exact cond_true _ _
  · rename_i m
    rw [wrap_u64]
    show Int.ofNat (m % 18446744073709551616) = _
    simp only [Int.ofNat_eq_natCast]; omega
  · rename_i m
    rw [wrap_u8]
    show Int.ofNat (m % 256) = _
    simp only [Int.ofNat_eq_natCast]; omega
  · rfl
theorem bool_ext {a b : Bool} (h : a = true ↔ b = true) : a = b := by
  cases a <;> cases b <;> simp at h ⊢
theorem ieq_eq (a b : Int) : ieq a b = (a == b) := by
  refine bool_ext ?_
  rw [beq_iff_eq]
  cases a with
  | ofNat a =>
    cases b with
    | ofNat b => simp only [ieq, Nat.beq_eq, Int.ofNat_eq_natCast]; omega
    | negSucc b => simp [ieq]
  | negSucc a =>
    cases b with
    | ofNat b => simp [ieq]
    | negSucc b => simp only [ieq, Nat.beq_eq, Int.negSucc_eq]; omega
theorem ilt_eq (a b : Int) : ilt a b = decide (a < b) := by
  refine bool_ext ?_
  rw [decide_eq_true_iff]
  cases a with
  | ofNat a =>
    cases b with
    | ofNat b =>
      simp only [ilt, Nat.blt, Nat.ble_eq, Int.ofNat_eq_natCast]
      omega
    | negSucc b => simp only [ilt, Int.ofNat_eq_natCast, Int.negSucc_eq, Bool.false_eq_true, false_iff]; omega
  | negSucc a =>
    cases b with
    | ofNat b => simp only [ilt, Int.ofNat_eq_natCast, Int.negSucc_eq, true_iff]; omega
    | negSucc b =>
      simp only [ilt, Nat.blt, Nat.ble_eq, Int.negSucc_eq]
      omega
theorem low_eq (k : IntKind) (a : Int) : low (bits k) a = (BitVec.ofInt k.bits a).toNat := by
  rw [BitVec.toNat_ofInt]
  have hb : ((bits k : Nat) : Int) = 2 ^ k.bits ∧ bits k = 2 ^ k.bits := by cases k <;> decide
  obtain ⟨h1, h2⟩ := hb
  cases a with
  | ofNat a =>
    simp only [low]
    show a % bits k = _
    rw [h2]
    show _ = Int.toNat ((a : Int) % ((2 ^ k.bits : Nat) : Int))
    omega
  | negSucc a =>
    simp only [low]
    show bits k - 1 - a % bits k = _
    rw [h2]
    have hp : 0 < 2 ^ k.bits := Nat.two_pow_pos _
    have hm : a % 2 ^ k.bits < 2 ^ k.bits := Nat.mod_lt _ hp
    show _ = Int.toNat (Int.negSucc a % ((2 ^ k.bits : Nat) : Int))
    rw [Int.negSucc_emod _ (by omega)]
    omega
theorem ibit_ok {P : Program} {op : BinOp} {k : IntKind} {a b : Int} {u : AV} (w : World) (e : ibit op k a b = some u) :
    ∃ n, u = .int k n ∧ (Op.intBits op k a b).run P w = .ok (.int k n) w := by
  have hx : BitVec.toNat (~~~ (BitVec.ofInt k.bits b)) = Nat.xor (low (bits k) b) (Nat.pred (bits k)) := by
    rw [low_eq]
    have h2 : bits k = 2 ^ k.bits := by cases k <;> decide
    rw [h2, ← BitVec.xor_allOnes, BitVec.toNat_xor, BitVec.toNat_allOnes]
    rfl
  unfold ibit at e
  split at e <;> first
    | (cases e; done)
    | (cases e
       refine ⟨_, rfl, ?_⟩
       simp only [Op.intBits, Sem.run_pure, wr_eq]
       congr 3
       first
         | (rw [BitVec.toNat_and, low_eq, low_eq]; rfl)
         | (rw [BitVec.toNat_or, low_eq, low_eq]; rfl)
         | (rw [BitVec.toNat_xor, low_eq, low_eq]; rfl)
         | (rw [BitVec.toNat_and, hx, low_eq k a]; rfl))
end Go.Ai
/-
  THE ABSTRACT INTERPRETER: sums, comparisons, parts of rows: what each says of the model's own instruction.
-/
namespace Go.Ai
open Go

section
variable {P : Program} {β : Be}
theorem int_inv {k : IntKind} {n : Int} {v : Value} (hv : VRel β (.int k n) v) : v = .int k n := by simpa [VRel] using hv
theorem bool_inv {b : Bool} {v : Value} (hv : VRel β (.bool b) v) : v = .bool b := by simpa [VRel] using hv
theorem idiv_ok {op : BinOp} {k : IntKind} {a b : Int} {u : AV} (w : World) (e : idiv op k a b = some u) (hop : op = .quo ∨ op = .rem) :
    ∃ n, u = .int k n ∧ (Op.intDiv op k a b).run P w = .ok (.int k n) w := by
  unfold idiv at e
  have hb : ieq b 0 = false := by cases hb : ieq b 0 <;> simp [hb] at e ⊢
  rw [ieq_eq] at hb
  have hne : b ≠ 0 := by simpa using hb
  rw [ieq_eq, hb, cond_false] at e
  rcases hop with rfl | rfl
  · cases e; exact ⟨_, rfl, by simp [Op.intDiv, hne, wr_eq]⟩
  · cases e; exact ⟨_, rfl, by simp [Op.intDiv, hne]⟩
theorem ishift_ok {op : BinOp} {k yk : IntKind} {a b : Int} {u : AV} (w : World) (e : ishift op k a b = some u) (hop : op = .shl ∨ op = .shr) :
    ∃ n, u = .int k n ∧ (Op.shift op k a yk b).run P w = .ok (.int k n) w := by
  cases b with
  | negSucc b => simp [ishift] at e
  | ofNat n =>
    have hn : ¬ ((Int.ofNat n) < 0) := by simp only [Int.ofNat_eq_natCast]; omega
    have hm : (bif Nat.ble n k.bits then n else k.bits) = min n k.bits := by
      cases hb : Nat.ble n k.bits
      · have : ¬ n ≤ k.bits := by intro h; rw [Nat.ble_eq_true_of_le h] at hb; cases hb
        simp; omega
      · have := ble_le hb
        simp; omega
    have hp : Int.ofNat (Nat.pow 2 (min n k.bits)) = (2 : Int) ^ (min n k.bits) := by
      simp only [Int.ofNat_eq_natCast]
      show ((2 ^ (min n k.bits) : Nat) : Int) = _
      exact Int.natCast_pow 2 _
    rcases hop with rfl | rfl
    · simp only [ishift, hm, hp] at e; cases e
      refine ⟨_, rfl, ?_⟩
      simp only [Op.shift, hn, if_false, wr_eq]
      rfl
    · simp only [ishift, hm, hp] at e; cases e
      refine ⟨_, rfl, ?_⟩
      simp only [Op.shift, hn, if_false]
      rfl
theorem bnds_ok {x : AV} {v : Value} {k : IntKind} {a b : Int} (hv : VRel β x v) (e : bnds x = some (k, a, b)) : ∃ n, v = .int k n ∧ a ≤ n ∧ n ≤ b := by
  unfold bnds at e
  split at e
  · cases e; exact ⟨_, int_inv hv, Int.le_refl _, Int.le_refl _⟩
  · cases e; simpa only [VRel] using hv
  · cases e
theorem ltR_ok {x y : AV} {v z : Value} {b : Bool} (hv : VRel β x v) (hz : VRel β y z) (e : ltR x y = some b) : ∃ k m n, v = .int k m ∧ z = .int k n ∧ b = decide (m < n) := by
  unfold ltR at e
  split at e
  · obtain ⟨hk, e⟩ := bif_inv e
    have := keq_eq hk; subst this
    simp only [hk, cond_true, Option.some.injEq] at e
    subst e
    exact ⟨_, _, _, int_inv hv, int_inv hz, ilt_eq _ _⟩
  · unfold ltS at e
    split at e
    · rename_i k a c k' d f hx hy
      obtain ⟨hk, e⟩ := bif_inv e
      have := keq_eq hk; subst this
      obtain ⟨m, rfl, h1, h2⟩ := bnds_ok hv hx
      obtain ⟨n, rfl, h3, h4⟩ := bnds_ok hz hy
      refine ⟨_, m, n, rfl, rfl, ?_⟩
      rw [ilt_eq, ilt_eq, hk] at e
      simp only [cond_true] at e
      by_cases g1 : c < d
      · simp only [g1, decide_true, cond_true, Option.some.injEq] at e
        rw [← e]
        exact (decide_eq_true (by omega)).symm
      · by_cases g2 : a < f
        · simp [g1, g2] at e
        · simp only [g1, g2, decide_false, cond_false, Option.some.injEq] at e
          rw [← e]
          exact (decide_eq_false (by omega)).symm
    · cases e
/-- Sums, products, shifts, orders of numbers. -/
theorem bin_ok {op : BinOp} {t : TypeId} {x y : AV} {v z : Value} {u : AV} (w : World) (h1 : op ≠ .eql) (h2 : op ≠ .neq) (hv : VRel β x v) (hz : VRel β y z) (e : bin op x y = some u) :
    ∃ r, (binOp op t v z).run P w = .ok r w ∧ VRel β u r := by
  have two : ∀ {f : IntKind → Int → Int → Option AV}, Ai.two x y f = some u → ∃ k a b, v = .int k a ∧ z = .int k b ∧ f k a b = some u := by
    intro f e
    unfold Ai.two at e
    split at e
    · obtain ⟨hk, e⟩ := bif_inv e
      have := keq_eq hk; subst this
      exact ⟨_, _, _, int_inv hv, int_inv hz, by simpa [hk] using e⟩
    · cases e
  cases op <;> simp only [bin] at e <;> first
    | exact absurd rfl h1
    | exact absurd rfl h2
    | skip
  case add => obtain ⟨k, a, b, rfl, rfl, e⟩ := two e; cases e; exact ⟨.int k (k.wrap (a + b)), by simp [binOp, Op.intArith], by simp only [VRel, wr_eq]; rfl⟩
  case sub => obtain ⟨k, a, b, rfl, rfl, e⟩ := two e; cases e; exact ⟨.int k (k.wrap (a - b)), by simp [binOp, Op.intArith], by simp only [VRel, wr_eq]; rfl⟩
  case mul => obtain ⟨k, a, b, rfl, rfl, e⟩ := two e; cases e; exact ⟨.int k (k.wrap (a * b)), by simp [binOp, Op.intArith], by simp only [VRel, wr_eq]; rfl⟩
  case lss =>
    unfold cmpB at e; split at e
    · rename_i b hb; obtain ⟨k, m, n, rfl, rfl, rfl⟩ := ltR_ok hv hz hb; cases e
      exact ⟨.bool (decide (m < n)), by simp [binOp, Op.intCmp], by simp [VRel]⟩
    · cases e
  case leq =>
    unfold cmpB at e; split at e
    · rename_i b hb; obtain ⟨k, m, n, rfl, rfl, rfl⟩ := ltR_ok hz hv hb; cases e
      exact ⟨.bool (decide (n ≤ m)), by simp [binOp, Op.intCmp], by simp only [VRel, cond_true]; congr 1; refine bool_ext ?_; simp⟩
    · cases e
  case gtr =>
    unfold cmpB at e; split at e
    · rename_i b hb; obtain ⟨k, m, n, rfl, rfl, rfl⟩ := ltR_ok hz hv hb; cases e
      exact ⟨.bool (decide (n > m)), by simp [binOp, Op.intCmp], by simp [VRel, GT.gt]⟩
    · cases e
  case geq =>
    unfold cmpB at e; split at e
    · rename_i b hb; obtain ⟨k, m, n, rfl, rfl, rfl⟩ := ltR_ok hv hz hb; cases e
      exact ⟨.bool (decide (m ≥ n)), by simp [binOp, Op.intCmp], by simp only [VRel, cond_true]; congr 1; refine bool_ext ?_; simp⟩
    · cases e
  case quo => obtain ⟨k, a, b, rfl, rfl, e⟩ := two e; obtain ⟨n, rfl, hr⟩ := idiv_ok (P := P) w e (.inl rfl); exact ⟨.int k n, by simpa [binOp] using hr, by simp [VRel]⟩
  case rem => obtain ⟨k, a, b, rfl, rfl, e⟩ := two e; obtain ⟨n, rfl, hr⟩ := idiv_ok (P := P) w e (.inr rfl); exact ⟨.int k n, by simpa [binOp] using hr, by simp [VRel]⟩
  case shl =>
    unfold shf at e
    split at e
    · rename_i k a k' b; obtain rfl := int_inv hv; obtain rfl := int_inv hz
      obtain ⟨n, rfl, hr⟩ := ishift_ok (P := P) (yk := k') w e (.inl rfl); exact ⟨.int k n, by simpa [binOp] using hr, by simp [VRel]⟩
    · cases e
  case shr =>
    unfold shf at e
    split at e
    · rename_i k a k' b; obtain rfl := int_inv hv; obtain rfl := int_inv hz
      obtain ⟨n, rfl, hr⟩ := ishift_ok (P := P) (yk := k') w e (.inr rfl); exact ⟨.int k n, by simpa [binOp] using hr, by simp [VRel]⟩
    · cases e
  all_goals
    obtain ⟨k, a, b, rfl, rfl, e⟩ := two e
    obtain ⟨n, rfl, hr⟩ := ibit_ok (P := P) w e
    exact ⟨.int k n, by simpa [binOp] using hr, by simp [VRel]⟩
theorem una_ok {op : UnOp} {x u : AV} {v : Value} (w : World) (hv : VRel β x v) (e : una op x = some u) : ∃ r, (Op.unary op v).run P w = .ok r w ∧ VRel β u r := by
  unfold una at e
  split at e
  · cases e; obtain rfl := int_inv hv; rename_i k n; exact ⟨.int k (k.wrap (0 - n)), by simp [Op.unary, Op.intArith], by simp only [VRel, wr_eq]; rfl⟩
  · obtain rfl := int_inv hv
    rename_i k n
    have hc : (bif k.signed then (-1 : Int) else k.max) = if k.signed then -1 else k.max := by cases k.signed <;> rfl
    obtain ⟨m, rfl, hr⟩ := ibit_ok (P := P) w e
    rw [hc] at hr
    exact ⟨.int k m, by simpa [Op.unary] using hr, by simp [VRel]⟩
  · cases e; obtain rfl := bool_inv hv; exact ⟨_, rfl, by simp [VRel]⟩
  · cases e
/-- texts -/
theorem seq_eq : ∀ (a b : List Nat), seq a b = (a == b)
  | [], [] => rfl
  | [], _ :: _ => rfl
  | _ :: _, [] => rfl
  | a :: l, b :: r => by
    simp only [seq, List.cons_beq_cons, seq_eq l r]
    cases hb : Nat.beq a b
    · have : (a == b) = false := by simpa using fun h => by rw [h, nbeq_self] at hb; cases hb
      simp [this]
    · have := beq_eq hb; subst this; simp
theorem toNat_inj {a b : List UInt8} (h : a.map UInt8.toNat = b.map UInt8.toNat) : a = b := by
  induction a generalizing b with
  | nil => cases b <;> simp at h ⊢
  | cons x a ih =>
    cases b with
    | nil => simp at h
    | cons y b =>
      simp only [List.map_cons, List.cons.injEq] at h
      rw [ih h.2, UInt8.toNat_inj.1 h.1]
theorem str_inv {s : List Nat} {v : Value} (hv : VRel β (.str s) v) : ∃ t : ByteArray, v = .string t ∧ t.data.toList.map UInt8.toNat = s := by simpa only [VRel] using hv
theorem seq_bytes {s t : ByteArray} : seq (s.data.toList.map UInt8.toNat) (t.data.toList.map UInt8.toNat) = (s.toList == t.toList) := by
  rw [seq_eq]
  refine bool_ext ?_
  have hs : ∀ x : ByteArray, x.toList = x.data.toList := fun x => ByteArray.toList_eq x
  rw [beq_iff_eq, beq_iff_eq]
  constructor
  · intro h; have := toNat_inj h; have e : s = t := ByteArray.ext (Array.toList_inj.1 this); rw [e]
  · intro h; rw [hs, hs] at h; rw [h]
end
end Go.Ai
/-
  THE ABSTRACT INTERPRETER: '==' and '!=': what they say of the model's own operation.
-/
namespace Go.Ai
open Go

section
variable {P : Program} {β : Be}
theorem aeqK_append : ∀ (ks ks' : List Bool) (a b c d : List AV) (r : Bool), a.length = ks.length → c.length = ks.length → aeqK (ks ++ ks') (a ++ b) (c ++ d) = some r →
    ∃ r1, aeqK ks a c = some r1 ∧ (r1 = true → aeqK ks' b d = some r) ∧ (r1 = false → r = false)
  | [], ks', a, b, c, d, r, ha, hc, e => by
    obtain rfl : a = [] := List.length_eq_zero_iff.1 ha
    obtain rfl : c = [] := List.length_eq_zero_iff.1 hc
    exact ⟨true, rfl, fun _ => by simpa using e, fun h => by cases h⟩
  | q :: ks, ks', x :: a, b, y :: c, d, r, ha, hc, e => by
    have ha' : a.length = ks.length := by simpa using ha
    have hc' : c.length = ks.length := by simpa using hc
    cases q <;> cases x <;> cases y <;> simp only [List.cons_append, aeqK] at e <;> (try cases e; done)
    case false.int.int k p k' q =>
      cases hk : keq k k'
      · simp [hk] at e
      · simp only [hk, cond_true] at e
        cases hq : ieq p q
        · simp only [hq, cond_false] at e; cases e
          exact ⟨false, by simp [aeqK, hq, hk], (fun h => by cases h), fun _ => rfl⟩
        · simp only [hq, cond_true] at e
          obtain ⟨r1, h1, h2, h3⟩ := aeqK_append ks ks' a b c d r ha' hc' e
          exact ⟨r1, by simp [aeqK, hq, hk, h1], h2, h3⟩
    case true.bool.bool p q =>
      cases hq : (bif p then q else !q)
      · simp only [hq, cond_false] at e; cases e
        exact ⟨false, by simp [aeqK, hq], (fun h => by cases h), fun _ => rfl⟩
      · simp only [hq, cond_true] at e
        obtain ⟨r1, h1, h2, h3⟩ := aeqK_append ks ks' a b c d r ha' hc' e
        exact ⟨r1, by simp [aeqK, hq, h1], h2, h3⟩
  | _ :: _, _, [], _, _, _, _, ha, _, _ => by simp at ha
  | _ :: _, _, _ :: _, _, [], _, _, _, hc, _ => by simp at hc
/-- a row as a value of its type -/
def packV (P : Program) (t : TypeId) (xs : List Value) : Value := match P.underlying t with
  | some (.struct _) => .agg xs.toArray
  | _ => xs.getD 0 Go.undef
theorem kinds_und {d : Nat} {t : TypeId} {ks : List Bool} (h : kindsT P d t = some ks) :
    (P.underlying t = some .bool ∧ ks = [true]) ∨ (∃ k, P.underlying t = some (.int k) ∧ ks = [false]) ∨ (∃ d' fs, d = d' + 1 ∧ P.underlying t = some (.struct fs) ∧ P.stoodInHeld t = false ∧ kindsF P (kindsT P d') 0 fs.toList = some ks) := by
  cases d with
  | zero => simp [kindsT] at h
  | succ d =>
    simp only [kindsT] at h
    split at h
    · rename_i e; cases h; exact .inl ⟨e, rfl⟩
    · rename_i k e; cases h; exact .inr (.inl ⟨k, e, rfl⟩)
    · rename_i fs e
      cases hs : P.stoodInHeld t
      · rw [hs, cond_false] at h; exact .inr (.inr ⟨d, fs, rfl, e, rfl, h⟩)
      · rw [hs, cond_true] at h; cases h
    · cases h
theorem part_pack {d : Nat} {t : TypeId} {ks : List Bool} {xs : List Value} {o : Nat} (w : World) (hk : kindsT P d t = some ks) (hs : ks.length = szOf P t) (hle : szOf P t ≤ xs.length - o) :
    (part t xs.toArray o).run P w = .ok (packV P t ((xs.drop o).take (szOf P t))) w := by
  rcases kinds_und hk with ⟨h, rfl⟩ | ⟨k, h, rfl⟩ | ⟨_, fs, _, h, _⟩
  · have h1 : szOf P t = 1 := hs.symm
    have hlt : o < xs.length := by omega
    simp only [part, isAgg, Sem.run_bind, run_underlying h, Result.andThen_ok, Sem.run_pure, packV, h, h1]
    simp [hlt, List.getElem?_drop]
  · have h1 : szOf P t = 1 := hs.symm
    have hlt : o < xs.length := by omega
    simp only [part, isAgg, Sem.run_bind, run_underlying h, Result.andThen_ok, Sem.run_pure, packV, h, h1]
    simp [hlt, List.getElem?_drop]
  · obtain ⟨i, hi⟩ := info_of_und h
    simp only [part, isAgg, Sem.run_bind, run_underlying h, Result.andThen_ok, Sem.run_pure, if_true, run_sizeOf' hi, packV, h]
    simp
theorem one_of {α : Type} {a : List α} (h : a.length = 1) : ∃ x, a = [x] := by
  cases a with
  | nil => simp at h
  | cons x l => cases l with
    | nil => exact ⟨x, rfl⟩
    | cons _ _ => simp at h
/-- rows of numbers and bools, and rows of such rows -/
theorem equalIn_ok : ∀ (d D : Nat) (t : TypeId) (ks : List Bool) (as bs : List AV) (xs ys : List Value) (b : Bool) (w : World), d ≤ D → kindsT P d t = some ks →
    VRels β as xs → VRels β bs ys → as.length = ks.length → bs.length = ks.length → aeqK ks as bs = some b → (Op.equalIn D t (packV P t xs) (packV P t ys)).run P w = .ok b w
  | 0, _, _, _, _, _, _, _, _, _, _, hk, _, _, _, _, _ => by simp [kindsT] at hk
  | d + 1, 0, _, _, _, _, _, _, _, _, hd, _, _, _, _, _, _ => by omega
  | d + 1, D + 1, t, ks, as, bs, xs, ys, b, w, hdD, hk, hx, hy, ha, hb, e => by
    rcases kinds_und hk with ⟨h, rfl⟩ | ⟨kd, h, rfl⟩ | ⟨d', fs, hd', h, hst, hf⟩
    · obtain ⟨p, rfl⟩ := one_of ha
      obtain ⟨q, rfl⟩ := one_of hb
      cases p <;> cases q <;> simp only [aeqK] at e <;> (try cases e; done)
      rename_i p q
      simp only [VRels] at hx hy
      obtain ⟨v, vs, rfl, hv, _⟩ := hx
      obtain ⟨u, us, rfl, hu, _⟩ := hy
      obtain rfl := bool_inv hv
      obtain rfl := bool_inv hu
      have hbv : b = (p == q) := by cases p <;> cases q <;> simp at e <;> simp [e]
      simp [packV, h, run_equalIn_bool' w D t p q h, hbv]
    · obtain ⟨p, rfl⟩ := one_of ha
      obtain ⟨q, rfl⟩ := one_of hb
      cases p <;> cases q <;> simp only [aeqK] at e <;> (try cases e; done)
      rename_i k p k' q
      obtain ⟨hkk, e'⟩ := bif_inv e
      clear e
      have := keq_eq hkk; subst this
      simp only [VRels] at hx hy
      obtain ⟨v, vs, rfl, hv, _⟩ := hx
      obtain ⟨u, us, rfl, hu, _⟩ := hy
      obtain rfl := int_inv hv
      obtain rfl := int_inv hu
      have hbv : b = (p == q) := by
        rw [← ieq_eq]
        cases hq : ieq p q <;> simp [hq] at e' <;> simp [e']
      simp [packV, h, run_equalIn_int w D t k kd p q h, hbv]
    · cases hd'
      have hfo : P.fieldsOf t = fs := by simp [Program.fieldsOf, h]
      simp only [packV, h]
      rw [run_equalIn_struct w D t _ _ (by rw [hfo]; exact h) hst, hfo]
      have key : ∀ (l : List Field) (o : Nat) (ks : List Bool) (as bs : List AV) (b : Bool), kindsF P (kindsT P d) o l = some ks → VRels β as (xs.drop o) → VRels β bs (ys.drop o) →
          as.length = ks.length → bs.length = ks.length → aeqK ks as bs = some b → (Op.eqFields D xs.toArray ys.toArray l).run P w = .ok b w := by
        intro l
        induction l with
        | nil =>
          intro o ks as bs b hk _ _ ha hb e
          simp only [kindsF] at hk; cases hk
          obtain rfl : as = [] := List.length_eq_zero_iff.1 ha
          obtain rfl : bs = [] := List.length_eq_zero_iff.1 hb
          cases e; rfl
        | cons f l ih =>
          intro o ks as bs b hk hx hy ha hb e
          simp only [kindsF] at hk
          have hname : (f.name == "_") = false := by cases hn : (f.name == "_") <;> simp [hn] at hk ⊢
          rw [hname, cond_false] at hk
          obtain ⟨ho, hk⟩ := bif_inv hk
          have ho := beq_eq ho
          split at hk
          · rename_i k1 hk1
            obtain ⟨hs1, hk⟩ := bif_inv hk
            have hs1 := beq_eq hs1
            split at hk
            · rename_i k2 hk2
              cases hk
              have la : as.length = k1.length + k2.length := by simpa using ha
              have lb : bs.length = k1.length + k2.length := by simpa using hb
              have lx := hx.length
              have ly := hy.length
              simp only [List.length_drop] at lx ly
              have ea : as = as.take k1.length ++ as.drop k1.length := (List.take_append_drop _ _).symm
              have eb : bs = bs.take k1.length ++ bs.drop k1.length := (List.take_append_drop _ _).symm
              rw [ea, eb] at e
              obtain ⟨r1, e1, e2, e3⟩ := aeqK_append k1 k2 _ _ _ _ b (by simp; omega) (by simp; omega) e
              have hp1 := part_pack (xs := xs) (o := o) w hk1 hs1 (by omega)
              have hp2 := part_pack (xs := ys) (o := o) w hk1 hs1 (by omega)
              have hrec := equalIn_ok d D f.type k1 (as.take k1.length) (bs.take k1.length) ((xs.drop o).take (szOf P f.type)) ((ys.drop o).take (szOf P f.type)) r1 w (by omega) hk1
                (by rw [hs1]; exact hx.take _) (by rw [hs1]; exact hy.take _) (by simp; omega) (by simp; omega) e1
              have hne : f.name ≠ "_" := by simpa using hname
              simp only [Op.eqFields, hne, ne_eq, not_false_eq_true, if_true, ho, Sem.run_bind, hp1, hp2, Result.andThen_ok, hrec]
              cases r1
              · simp [e3 rfl]
              · simp only [Bool.not_true, Bool.false_eq_true, if_false]
                refine ih (o + szOf P f.type) k2 (as.drop k1.length) (bs.drop k1.length) b hk2 ?_ ?_ (by simp; omega) (by simp; omega) (e2 rfl)
                · rw [← hs1, ← List.drop_drop]; exact hx.drop _
                · rw [← hs1, ← List.drop_drop]; exact hy.drop _
            · cases hk
          · cases hk
      exact key fs.toList 0 ks as bs b hf (by simpa using hx) (by simpa using hy) ha hb e
end
end Go.Ai
/-
  THE ABSTRACT INTERPRETER: '==' and '!=', at every type that 'ev' takes.
-/
namespace Go.Ai
open Go

section
variable {P : Program} {β : Be} {R : Type} {out : R}
theorem guardType_no : ∀ (d D : Nat) (t : TypeId) (ks : List Bool), kindsT P d t = some ks → d ≤ D → P.eqGuardType D t = false
  | 0, _, _, _, hk, _ => by simp [kindsT] at hk
  | d + 1, 0, _, _, _, h => by omega
  | d + 1, D + 1, t, ks, hk, h => by
    rcases kinds_und hk with ⟨hu, _⟩ | ⟨k, hu, _⟩ | ⟨d', fs, hd', hu, _, hf⟩
    · simp [Program.eqGuardType, hu]
    · simp [Program.eqGuardType, hu]
    · cases hd'
      simp only [Program.eqGuardType, hu]
      have key : ∀ (l : List Field) (o : Nat) (ks : List Bool), kindsF P (kindsT P d) o l = some ks → ∀ f ∈ l, P.eqGuardType D f.type = false := by
        intro l
        induction l with
        | nil => intro _ _ _ f hf; cases hf
        | cons g l ih =>
          intro o ks hk f hf
          simp only [kindsF] at hk
          have hname : (g.name == "_") = false := by cases hn : (g.name == "_") <;> simp [hn] at hk ⊢
          rw [hname, cond_false] at hk
          obtain ⟨_, hk⟩ := bif_inv hk
          split at hk
          · rename_i k1 hk1
            obtain ⟨_, hk⟩ := bif_inv hk
            split at hk
            · rename_i k2 hk2
              rcases List.mem_cons.1 hf with rfl | hf
              · exact guardType_no d D f.type k1 hk1 (by omega)
              · exact ih _ k2 hk2 f hf
            · cases hk
          · cases hk
      have hall := key fs.toList 0 ks hf
      cases hany : fs.any fun f => f.name != "_" && P.eqGuardType D f.type
      · rfl
      · rw [Array.any_eq_true'] at hany
        obtain ⟨f, hm, hf⟩ := hany
        rw [hall f (by simpa using hm)] at hf
        simp at hf
theorem aeqI_ok {x y : AV} {v z : Value} {b : Bool} (hv : VRel β x v) (hz : VRel β y z) (e : aeqI x y = some b) : ∃ k m n, v = .int k m ∧ z = .int k n ∧ (m == n) = b := by
  unfold aeqI at e
  split at e
  · obtain ⟨hk, e⟩ := bif_inv e
    have := keq_eq hk; subst this
    simp only [hk, cond_true, Option.some.injEq, ieq_eq] at e
    exact ⟨_, _, _, int_inv hv, int_inv hz, e⟩
  · unfold eqS at e
    split at e
    · rename_i k a c k' d f hx hy
      obtain ⟨hk, e⟩ := bif_inv e
      have := keq_eq hk; subst this
      obtain ⟨m, rfl, h1, h2⟩ := bnds_ok hv hx
      obtain ⟨n, rfl, h3, h4⟩ := bnds_ok hz hy
      refine ⟨_, m, n, rfl, rfl, ?_⟩
      rw [ilt_eq, ilt_eq, hk] at e
      simp only [cond_true] at e
      by_cases g1 : c < d
      · simp only [g1, decide_true, cond_true, Option.some.injEq] at e
        rw [← e]
        exact beq_eq_false_iff_ne.2 (by omega)
      · by_cases g2 : f < a
        · simp only [g1, g2, decide_true, decide_false, cond_true, cond_false, Option.some.injEq] at e
          rw [← e]
          exact beq_eq_false_iff_ne.2 (by omega)
        · simp [g1, g2] at e
    · cases e
theorem yes_inv {neg : Bool} {o : Option Bool} {k : AV → Option R} (e : yes neg o k = some out) : ∃ b, o = some b ∧ k (.bool (bif neg then not b else b)) = some out := by
  unfold yes at e
  split at e
  · exact ⟨_, rfl, e⟩
  · cases e
theorem eqPtr1 (w : World) (d : Nat) {t el : TypeId} (ht : P.underlying t = some (.pointer el)) (c : Option Addr) : (Op.equalIn (d + 1) t (.pointer none) (.pointer c)).run P w = .ok c.isNone w := by simp [Op.equalIn, run_underlying ht]
theorem eqPtr2 (w : World) (d : Nat) {t el : TypeId} (ht : P.underlying t = some (.pointer el)) (a : Addr) : (Op.equalIn (d + 1) t (.pointer (some a)) (.pointer none)).run P w = .ok false w := by simp [Op.equalIn, run_underlying ht]
theorem eqSl1 (w : World) (d : Nat) {t el : TypeId} (ht : P.underlying t = some (.slice el)) (c : Option Addr) (n m n' m' : Nat) : (Op.equalIn (d + 1) t (.slice none n m) (.slice c n' m')).run P w = .ok c.isNone w := by simp [Op.equalIn, run_underlying ht]
theorem eqSl2 (w : World) (d : Nat) {t el : TypeId} (ht : P.underlying t = some (.slice el)) (a : Addr) (n m n' m' : Nat) : (Op.equalIn (d + 1) t (.slice (some a) n m) (.slice none n' m')).run P w = .ok false w := by simp [Op.equalIn, run_underlying ht]
theorem eqMap1 (w : World) (d : Nat) {t q el : TypeId} (ht : P.underlying t = some (.map q el)) (c : Option Nat) : (Op.equalIn (d + 1) t (.map none) (.map c)).run P w = .ok c.isNone w := by simp [Op.equalIn, run_underlying ht]
theorem eqMap2 (w : World) (d : Nat) {t q el : TypeId} (ht : P.underlying t = some (.map q el)) (a : Nat) : (Op.equalIn (d + 1) t (.map (some a)) (.map none)).run P w = .ok false w := by simp [Op.equalIn, run_underlying ht]
theorem eqFn0 (w : World) (d : Nat) {t : TypeId} {ps rs : Array TypeId} {vd : Bool} (ht : P.underlying t = some (.func ps rs vd)) : (Op.equalIn (d + 1) t .nilFunc .nilFunc).run P w = .ok true w := by simp [Op.equalIn, run_underlying ht]
theorem eqFn1 (w : World) (d : Nat) {t : TypeId} {ps rs : Array TypeId} {vd : Bool} (ht : P.underlying t = some (.func ps rs vd)) (f : Fn) (a b : Array Value) : (Op.equalIn (d + 1) t .nilFunc (.func f a b)).run P w = .ok false w := by simp [Op.equalIn, run_underlying ht]
theorem eqFn2 (w : World) (d : Nat) {t : TypeId} {ps rs : Array TypeId} {vd : Bool} (ht : P.underlying t = some (.func ps rs vd)) (f : Fn) (a b : Array Value) : (Op.equalIn (d + 1) t (.func f a b) .nilFunc).run P w = .ok false w := by simp [Op.equalIn, run_underlying ht]
/-- what a comparison comes to, where the values' being the same is b -/
theorem cmp_run {neg : Bool} {t : TypeId} {xo yo : Operand} {v z : Value} {b : Bool} (w : World) (hg : (eqGuard (if neg then .neq else .eql) t xo yo v z).run P w = .ok () w)
    (hb : ∀ op, op = .eql ∨ op = .neq → binOp op t v z = if op = .eql then (do pure (.bool (← Op.equal t v z))) else (do pure (.bool (!(← Op.equal t v z))))) (he : (Op.equal t v z).run P w = .ok b w) :
    ((do eqGuard (if neg then .neq else .eql) t xo yo v z; binOp (if neg then .neq else .eql) t v z) : Sem Value).run P w = .ok (.bool (bif neg then not b else b)) w := by
  cases neg
  · simp only [Bool.false_eq_true, if_false] at hg ⊢
    simp [hg, hb .eql (.inl rfl), he]
  · simp only [if_true] at hg ⊢
    rw [Sem.run_bind, hg, Result.andThen_ok, hb .neq (.inr rfl)]
    simp [he]
theorem eqOp_ok {neg : Bool} {t : TypeId} {xo yo : Operand} {x y : AV} {v z : Value} {k : AV → Option R} (w : World) (hv : VRel β x v) (hz : VRel β y z) (e : eqOp P neg t x y k = some out) :
    ∃ b, ((do eqGuard (if neg then .neq else .eql) t xo yo v z; binOp (if neg then .neq else .eql) t v z) : Sem Value).run P w = .ok (.bool b) w ∧ k (.bool b) = some out := by
  have gno : ∀ (op : BinOp) (v z : Value), (∀ a b, v = .agg a → z = .agg b → False) → (v = .nilIface → z = .nilIface → False) → (eqGuard op t xo yo v z).run P w = .ok () w := by
    intro op v z h1 h2
    unfold eqGuard
    split <;> simp only [Bool.not_true, Bool.not_false, Bool.false_eq_true, if_false, if_true, Sem.run_pure]
    all_goals
      split
      · exact (h2 rfl rfl).elim
      · exact (h1 _ _ rfl rfl).elim
      · rfl
  unfold eqOp at e
  split at e
  · -- bool
    rename_i ht
    have hyes := yes_inv e
    clear e
    obtain ⟨b, hb, e⟩ := hyes
    unfold aeqB at hb
    split at hb
    · rename_i p q
      obtain rfl := bool_inv hv; obtain rfl := bool_inv hz
      cases hb
      refine ⟨_, cmp_run (b := (bif p then q else !q)) w (gno _ _ _ (by simp) (by simp)) ?_ ?_, e⟩
      · rintro op (rfl | rfl) <;> simp [binOp]
      · have := run_equalIn_bool' w 9999 t p q ht
        rw [show Op.equal t (.bool p) (.bool q) = Op.equalIn (9999 + 1) t (.bool p) (.bool q) from rfl, this]
        cases p <;> cases q <;> rfl
    · cases hb
  · -- numbers
    rename_i kd ht
    have hyes := yes_inv e
    clear e
    obtain ⟨b, hb, e⟩ := hyes
    obtain ⟨k1, p, q, rfl, rfl, hb⟩ := aeqI_ok hv hz hb
    cases neg
    · refine ⟨_, ?_, e⟩
      simp only [Bool.false_eq_true, if_false, Sem.run_bind, gno .eql (.int k1 p) (.int k1 q) (by simp) (by simp), Result.andThen_ok, cond_false]
      simp only [binOp, Op.intCmp]
      simp [hb]
    · refine ⟨_, ?_, e⟩
      simp only [if_true, Sem.run_bind, gno .neq (.int k1 p) (.int k1 q) (by simp) (by simp), Result.andThen_ok, cond_true]
      simp only [binOp, Op.intCmp]
      simp [bne, hb]
  · -- texts
    have hyes := yes_inv e
    clear e
    obtain ⟨b, hb, e⟩ := hyes
    unfold aeqT at hb
    split at hb
    · rename_i p q
      obtain ⟨s1, rfl, rfl⟩ := str_inv hv
      obtain ⟨s2, rfl, rfl⟩ := str_inv hz
      rw [seq_bytes] at hb
      have hb := Option.some.inj hb
      cases neg
      · refine ⟨_, ?_, e⟩
        simp only [Bool.false_eq_true, if_false, Sem.run_bind, gno .eql (.string s1) (.string s2) (by simp) (by simp), Result.andThen_ok, cond_false]
        simp only [binOp, Op.stringOp]
        simp [hb]
      · refine ⟨_, ?_, e⟩
        simp only [if_true, Sem.run_bind, gno .neq (.string s1) (.string s2) (by simp) (by simp), Result.andThen_ok, cond_true]
        simp only [binOp, Op.stringOp]
        simp [hb]
    · cases hb
  · -- pointers
    rename_i el ht
    have hyes := yes_inv e
    clear e
    obtain ⟨b, hb, e⟩ := hyes
    have fin : ∀ (a c : Option Addr), (a = none ∨ c = none) → b = (a.isNone && c.isNone) → v = .pointer a → z = .pointer c →
        ∃ b, ((do eqGuard (if neg then .neq else .eql) t xo yo v z; binOp (if neg then .neq else .eql) t v z) : Sem Value).run P w = .ok (.bool b) w ∧ k (.bool b) = some out := by
      rintro a c hac rfl rfl rfl
      refine ⟨_, cmp_run (b := (a.isNone && c.isNone)) w (gno _ _ _ (by simp) (by simp)) ?_ ?_, e⟩
      · rintro op (rfl | rfl) <;> cases a <;> cases c <;> simp [binOp]
      · rw [show Op.equal t (.pointer a) (.pointer c) = Op.equalIn (9999 + 1) t (.pointer a) (.pointer c) from rfl]
        rcases hac with rfl | rfl
        · exact eqPtr1 w 9999 ht _
        · cases a with
          | none => exact eqPtr1 w 9999 ht _
          | some a => simpa using eqPtr2 w 9999 ht a
    unfold aeqP at hb
    split at hb <;> first | (cases hb; done) | skip
    · cases hb; simp only [VRel] at hv hz; exact fin none none (.inl rfl) rfl hv hz
    · cases hb; obtain ⟨p, _, hz⟩ := ptr_inv hz; simp only [VRel] at hv; exact fin none _ (.inl rfl) (by simp) hv hz
    · cases hb; obtain ⟨p, _, hv⟩ := ptr_inv hv; simp only [VRel] at hz; exact fin _ none (.inr rfl) (by simp) hv hz
  · -- slices
    rename_i el ht
    have hyes := yes_inv e
    clear e
    obtain ⟨b, hb, e⟩ := hyes
    have fin : ∀ (a c : Option Addr) (n1 m1 n2 m2 : Nat), (a = none ∨ c = none) → b = (a.isNone && c.isNone) → v = .slice a n1 m1 → z = .slice c n2 m2 →
        ∃ b, ((do eqGuard (if neg then .neq else .eql) t xo yo v z; binOp (if neg then .neq else .eql) t v z) : Sem Value).run P w = .ok (.bool b) w ∧ k (.bool b) = some out := by
      rintro a c n1 m1 n2 m2 hac rfl rfl rfl
      refine ⟨_, cmp_run (b := (a.isNone && c.isNone)) w (gno _ _ _ (by simp) (by simp)) ?_ ?_, e⟩
      · rintro op (rfl | rfl) <;> simp [binOp]
      · rw [show Op.equal t (.slice a n1 m1) (.slice c n2 m2) = Op.equalIn (9999 + 1) t (.slice a n1 m1) (.slice c n2 m2) from rfl]
        rcases hac with rfl | rfl
        · exact eqSl1 w 9999 ht _ _ _ _ _
        · cases a with
          | none => exact eqSl1 w 9999 ht _ _ _ _ _
          | some a => simpa using eqSl2 w 9999 ht a _ _ _ _
    unfold aeqS at hb
    split at hb <;> first | (cases hb; done) | skip
    · cases hb; simp only [VRel] at hv hz; exact fin none none _ _ _ _ (.inl rfl) rfl hv hz
    · cases hb; obtain ⟨p, _, a, m, hz, _⟩ := slice_inv hz; simp only [VRel] at hv; exact fin none _ _ _ _ _ (.inl rfl) (by simp) hv hz
    · cases hb; obtain ⟨p, _, a, m, hv, _⟩ := slice_inv hv; simp only [VRel] at hz; exact fin _ none _ _ _ _ (.inr rfl) (by simp) hv hz
  · -- maps
    rename_i k1 k2 ht
    have hyes := yes_inv e
    clear e
    obtain ⟨b, hb, e⟩ := hyes
    have fin : ∀ (a c : Option Nat), (a = none ∨ c = none) → b = (a.isNone && c.isNone) → v = .map a → z = .map c →
        ∃ b, ((do eqGuard (if neg then .neq else .eql) t xo yo v z; binOp (if neg then .neq else .eql) t v z) : Sem Value).run P w = .ok (.bool b) w ∧ k (.bool b) = some out := by
      rintro a c hac rfl rfl rfl
      refine ⟨_, cmp_run (b := (a.isNone && c.isNone)) w (gno _ _ _ (by simp) (by simp)) ?_ ?_, e⟩
      · rintro op (rfl | rfl) <;> simp [binOp]
      · rw [show Op.equal t (.map a) (.map c) = Op.equalIn (9999 + 1) t (.map a) (.map c) from rfl]
        rcases hac with rfl | rfl
        · exact eqMap1 w 9999 ht _
        · cases a with
          | none => exact eqMap1 w 9999 ht _
          | some a => simpa using eqMap2 w 9999 ht a
    unfold aeqM at hb
    split at hb <;> first | (cases hb; done) | skip
    · cases hb; simp only [VRel] at hv hz; exact fin none none (.inl rfl) rfl hv hz
    · cases hb; simp only [VRel] at hv hz; obtain ⟨p, _, hz⟩ := hz; exact fin none _ (.inl rfl) (by simp) hv hz
    · cases hb; simp only [VRel] at hv hz; obtain ⟨p, _, hv⟩ := hv; exact fin _ none (.inr rfl) (by simp) hv hz
  · -- functions
    rename_i k1 k2 k3 ht
    have hyes := yes_inv e
    clear e
    obtain ⟨b, hb, e⟩ := hyes
    unfold aeqF at hb
    have fin : ∀ (b' : Bool), b = b' → (Op.equal t v z).run P w = .ok b' w → (∀ a c, v = .agg a → z = .agg c → False) → (v = .nilIface → z = .nilIface → False) →
        (∀ op, op = .eql ∨ op = .neq → binOp op t v z = if op = .eql then (do pure (.bool (← Op.equal t v z))) else (do pure (.bool (!(← Op.equal t v z))))) →
        ∃ b, ((do eqGuard (if neg then .neq else .eql) t xo yo v z; binOp (if neg then .neq else .eql) t v z) : Sem Value).run P w = .ok (.bool b) w ∧ k (.bool b) = some out := by
      rintro b' rfl h1 h2 h3 h4
      exact ⟨_, cmp_run w (gno _ _ _ h2 h3) h4 h1, e⟩
    split at hb <;> first | (cases hb; done) | skip
    · cases hb; simp only [VRel] at hv hz; subst hv; subst hz
      refine fin true rfl ?_ (by simp) (by simp) ?_
      · exact eqFn0 w 9999 ht
      · rintro op (rfl | rfl) <;> simp [binOp]
    · cases hb; simp only [VRel] at hv hz; subst hv; obtain ⟨a, c, rfl, _⟩ := hz
      refine fin false rfl ?_ (by simp) (by simp) ?_
      · exact eqFn1 w 9999 ht _ a c
      · rintro op (rfl | rfl) <;> simp [binOp]
    · cases hb; simp only [VRel] at hv hz; subst hz; obtain ⟨a, c, rfl, _⟩ := hv
      refine fin false rfl ?_ (by simp) (by simp) ?_
      · exact eqFn2 w 9999 ht _ a c
      · rintro op (rfl | rfl) <;> simp [binOp]
  · -- structs
    rename_i fs ht
    split at e
    · rename_i ks hks
      have e1 := bif_inv e
      clear e
      obtain ⟨hdp, e⟩ := e1
      have hdp := ble_le hdp
      have hyes := yes_inv e
      clear e
      obtain ⟨b, hb, e⟩ := hyes
      unfold aeqG at hb
      split at hb
      · rename_i as bs
        obtain ⟨h1, hb⟩ := bif_inv hb
        obtain ⟨h2, hb⟩ := bif_inv hb
        have h1 := beq_eq h1
        have h2 := beq_eq h2
        simp only [VRel] at hv hz
        obtain ⟨xs, rfl, hx⟩ := hv
        obtain ⟨ys, rfl, hy⟩ := hz
        have heq := equalIn_ok 4 10000 t ks as bs xs.toList ys.toList b w (by omega) hks hx hy h1 h2 hb
        simp only [packV, ht, Array.toArray_toList] at heq
        refine ⟨_, cmp_run (b := b) w ?_ ?_ heq, e⟩
        · have := guardType_no 4 P.depth t ks hks hdp
          unfold eqGuard
          cases neg <;> simp [this]
        · rintro op (rfl | rfl) <;> simp [binOp]
      · cases hb
    · cases e
  · cases e
end
end Go.Ai
