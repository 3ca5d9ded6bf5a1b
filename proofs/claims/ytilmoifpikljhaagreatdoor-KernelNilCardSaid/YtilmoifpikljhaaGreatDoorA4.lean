/-
  THE ABSTRACT INTERPRETER: parts of rows, texts, slices: what each says of the model's own instruction.
-/
import Derived.Test.YtilmoifpikljhaaGreatDoorA3
import Derived.Laws.Append
import Derived.Maps.Own
import Derived.Great.FillDense
import Derived.Laws.BytesString
set_option linter.unusedVariables false
set_option linter.unusedSimpArgs false
namespace Go.Ai
open Go

section
variable {R : Type} {out : R} {C : Ctx} {β : Be} {h : Heap} {w : World} {k : AV → Heap → Option R}
theorem agg_inv {cs : List AV} {v : Value} (hv : VRel β (.agg cs) v) : ∃ x, v = .agg x ∧ VRels β cs x.toList := by simpa only [VRel] using hv
theorem part_ok {P : Program} {t : TypeId} {x : AV} {o : Nat} {v : Value} {k : AV → Option R} (hv : VRel β x v) (e : aggB P t (partN (szOf P t) x o k) (part1 x o k) = some out) :
    ∃ xs y u, v = .agg xs ∧ (∀ w, (part t xs o).run P w = .ok y w) ∧ VRel β u y ∧ k u = some out := by
  have e0 := aggB_inv e
  clear e
  rcases e0 with ⟨d, hd, ha, e⟩ | ⟨d, hd, ha, e⟩
  · unfold partN at e
    split at e
    · rename_i cs
      have e1 := getL_inv e
      clear e
      obtain ⟨us, hu, e⟩ := e1
      obtain ⟨xs, rfl, hx⟩ := agg_inv hv
      obtain ⟨_, rfl⟩ := sub_eq cs o _ us hu
      obtain ⟨i, hi⟩ := info_of_und hd
      refine ⟨xs, .agg (xs.extract o (o + szOf P t)), _, rfl, fun w => by simp [part, ha, run_sizeOf' hi], ?_, e⟩
      simp only [VRel]
      refine ⟨_, rfl, ?_⟩
      have := (hx.drop o).take (szOf P t)
      simpa [Array.toList_extract, List.extract_eq_take_drop] using this
    · cases e
  · unfold part1 at e
    split at e
    · rename_i cs
      have e1 := get1_inv e
      clear e
      obtain ⟨u, hu, e⟩ := e1
      obtain ⟨xs, rfl, hx⟩ := agg_inv hv
      rw [nth_eq] at hu
      obtain ⟨y, hy, hr⟩ := hx.get hu
      have hy' : xs[o]? = some y := by simpa using hy
      exact ⟨xs, y, u, rfl, fun w => by simp [part, ha, hy'], hr, e⟩
    · cases e
theorem field_ok {t : TypeId} {fs : Array Field} {f : Nat} {fd : Field} {x : AV} {v : Value} (r : HRel C β h w) (ht : C.P.underlying t = some (.struct fs)) (hf : fs.toList[f]? = some fd)
    (hv : VRel β x v) (e : aggB C.P fd.type (partN (szOf C.P fd.type) x fd.offset fun v => k v h) (part1 x fd.offset fun v => k v h) = some out) :
    ∃ y, (Instr.field t v f).run C.P w = .ok y w ∧ Done C β h w k out y w := by
  obtain ⟨xs, y, u, rfl, hp, hr, e⟩ := part_ok hv e
  have hf' : fs[f]? = some fd := by simpa using hf
  exact ⟨y, by simp [Instr.field, run_underlying ht, hf', asAgg, hp], done_same r e hr⟩
theorem index_array_ok {t el : TypeId} {n : Nat} {x i : AV} {v q : Value} (r : HRel C β h w) (ht : C.P.underlying t = some (.array n el)) (hs : Nat.blt 0 (szOf C.P el) = true) (hv : VRel β x v) (hq : VRel β i q)
    (e : aggB C.P el (ixG true n (szOf C.P el) x i fun v => k v h) (ixG false n (szOf C.P el) x i fun v => k v h) = some out) : ∃ y, (Instr.index t v q).run C.P w = .ok y w ∧ Done C β h w k out y w := by
  have key : ∃ j, natOf i = some j ∧ j < n ∧ aggB C.P el (partN (szOf C.P el) x (j * szOf C.P el) fun v => k v h) (part1 x (j * szOf C.P el) fun v => k v h) = some out := by
    unfold ixG at e
    cases hj : natOf i with
    | none =>
      have e0 := aggB_inv e
      simp [hj] at e0
    | some j =>
      cases hb : Nat.blt j n with
      | false =>
        have e0 := aggB_inv e
        simp [hj, hb] at e0
      | true =>
        refine ⟨j, rfl, blt_lt hb, ?_⟩
        simp only [hj, hb, cond_true, cond_false] at e
        exact e
  obtain ⟨j, hj, hlt, e⟩ := key
  obtain ⟨kq, rfl⟩ := natOf_inv hq hj
  obtain ⟨xs, y, u, rfl, hp, hr, e⟩ := part_ok hv e
  obtain ⟨info, hi, _⟩ := info_of_sz hs
  refine ⟨y, ?_, done_same r e hr⟩
  simp [Instr.index, asIntOf, run_underlying ht, hlt, run_sizeOf' hi, hp]
theorem byte_at {s : ByteArray} {j b : Nat} (h : nth (s.data.toList.map UInt8.toNat) j = some b) : ∃ c : UInt8, s[j]? = some c ∧ c.toNat = b := by
  rw [nth_eq] at h
  simp only [List.getElem?_map, Option.map_eq_some_iff] at h
  obtain ⟨c, hc, rfl⟩ := h
  refine ⟨c, ?_, rfl⟩
  have hlt : j < s.data.toList.length := (List.getElem?_eq_some_iff.1 hc).1
  have hlt' : j < s.size := by simpa using hlt
  rw [getElem?_pos s j hlt']
  have := (List.getElem?_eq_some_iff.1 hc).2
  congr 1
theorem index_text_ok {t : TypeId} {x i : AV} {v q : Value} (r : HRel C β h w) (ht : C.P.underlying t = some .string) (hv : VRel β x v) (hq : VRel β i q)
    (e : ixT x i (fun v => k v h) = some out) : ∃ y, (Instr.index t v q).run C.P w = .ok y w ∧ Done C β h w k out y w := by
  unfold ixT at e
  split at e
  · rename_i s j hj
    split at e
    · rename_i b hb
      obtain ⟨s, rfl, rfl⟩ := str_inv hv
      obtain ⟨kq, rfl⟩ := natOf_inv hq hj
      obtain ⟨c, hc, rfl⟩ := byte_at hb
      refine ⟨.int .u8 c.toNat, ?_, done_same r e (by simp [VRel])⟩
      simp [Instr.index, asIntOf, run_underlying ht, hc]
    · cases e
  · cases e
theorem ext_ok {x : AV} {i : Nat} {v : Value} (r : HRel C β h w) (hv : VRel β x v) (e : ext x i (fun v => k v h) = some out) : ∃ y, (Instr.extract v i).run C.P w = .ok y w ∧ Done C β h w k out y w := by
  unfold ext at e
  split at e
  · rename_i vs
    have e1 := get1_inv e
    clear e
    obtain ⟨u, hu, e⟩ := e1
    simp only [VRel] at hv
    obtain ⟨xs, rfl, hx⟩ := hv
    rw [nth_eq] at hu
    obtain ⟨y, hy, hr⟩ := hx.get hu
    have hy' : xs[i]? = some y := by simpa using hy
    exact ⟨y, by simp [Instr.extract, hy'], done_same r e hr⟩
  · cases e
/-! ### Slices -/
def ORelV (β : Be) : Option AV → Option Value → Prop
  | none, none => True
  | some a, some v => VRel β a v
  | _, _ => False
theorem bounds_ok {P : Program} {isS : Bool} {len cap a b : Nat} {lo hi : Option AV} {lo' hi' : Option Value} (w : World) (hl : ORelV β lo lo') (hh : ORelV β hi hi') (ea : optNat 0 lo = some a) (eb : optNat len hi = some b)
    (h1 : a ≤ b) (h2 : b ≤ cap) : (Instr.sliceBounds isS len cap lo' hi' none).run P w = .ok (a, b, cap) w := by
  cases hi <;> cases hi' <;> simp only [ORelV] at hh
  · simp only [optNat] at eb; cases eb
    cases lo <;> cases lo' <;> simp only [ORelV] at hl
    · simp only [optNat] at ea; cases ea; rfl
    · obtain ⟨q, rfl⟩ := natOf_inv hl ea
      simp only [Instr.sliceBounds, Sem.run_bind, Sem.run_pure, Result.andThen_ok]
      rw [run_sliceBound (P := P) w q a len _ (by omega) (by omega)]; rfl
  · obtain ⟨q, rfl⟩ := natOf_inv hh eb
    cases lo <;> cases lo' <;> simp only [ORelV] at hl
    · simp only [optNat] at ea; cases ea
      simp only [Instr.sliceBounds, Sem.run_bind, Sem.run_pure, Result.andThen_ok]
      rw [run_sliceBound (P := P) w q b cap _ (by omega) (by omega)]; rfl
    · obtain ⟨q2, rfl⟩ := natOf_inv hl ea
      simp only [Instr.sliceBounds, Sem.run_bind, Sem.run_pure, Result.andThen_ok]
      rw [run_sliceBound (P := P) w q b cap _ (by omega) (by omega)]
      simp only [Result.andThen_ok, Int.toNat_natCast]
      rw [run_sliceBound (P := P) w q2 a b _ (by omega) (by omega)]; rfl
theorem bounds3_ok {P : Program} {isS : Bool} {len cap a b m : Nat} {lo : Option AV} {hi mx : AV} {lo' : Option Value} {hi' mx' : Value} (w : World) (hl : ORelV β lo lo') (hh : VRel β hi hi') (hm : VRel β mx mx') (ea : optNat 0 lo = some a) (eb : natOf hi = some b) (em : natOf mx = some m)
    (h1 : a ≤ b) (h2 : b ≤ m) (h3 : m ≤ cap) : (Instr.sliceBounds isS len cap lo' (some hi') (some mx')).run P w = .ok (a, b, m) w := by
  obtain ⟨q, rfl⟩ := natOf_inv hh eb
  obtain ⟨q', rfl⟩ := natOf_inv hm em
  cases lo <;> cases lo' <;> simp only [ORelV] at hl
  · simp only [optNat] at ea; cases ea
    simp only [Instr.sliceBounds, Sem.run_bind]
    rw [run_sliceBound (P := P) w q' m cap _ (by omega) (by omega)]
    simp only [Result.andThen_ok, Int.toNat_natCast]
    rw [run_sliceBound (P := P) w q b m _ (by omega) (by omega)]; rfl
  · obtain ⟨q2, rfl⟩ := natOf_inv hl ea
    simp only [Instr.sliceBounds, Sem.run_bind]
    rw [run_sliceBound (P := P) w q' m cap _ (by omega) (by omega)]
    simp only [Result.andThen_ok, Int.toNat_natCast]
    rw [run_sliceBound (P := P) w q b m _ (by omega) (by omega)]
    simp only [Result.andThen_ok, Int.toNat_natCast]
    rw [run_sliceBound (P := P) w q2 a b _ (by omega) (by omega)]; rfl
theorem row_len (r : HRel C β h w) {l : Nat} {p : Pl} {cs : List AV} (e : β l = some p) (g : h.get l = some (.cells cs) ∨ h.get l = some (.tab cs)) : p.o + cs.length ≤ p.n := by
  obtain ⟨pre, mid, post, elem, fr, hb, hpre, hn, hr, ha⟩ := row_of r e g
  have := hr.length
  simp at hn
  omega
theorem slA_ok {t el : TypeId} {n : Nat} {x : AV} {v : Value} {lo hi mx : Option AV} {lo' hi' mx' : Option Value} (r : HRel C β h w) (ht : C.P.underlying t = some (.array n el)) (hs : Nat.blt 0 (szOf C.P el) = true) (hv : VRel β x v)
    (hl : ORelV β lo lo') (hh : ORelV β hi hi') (hm : ORelV β mx mx') (e : slA n (szOf C.P el) h x lo hi mx (fun v => k v h) = some out) :
    ∃ y, (Instr.sliceAt t v lo' hi' mx').run C.P w = .ok y w ∧ Done C β h w k out y w := by
  unfold slA at e
  split at e
  · rename_i l o
    split at e
    · rename_i a b ea eb
      have e1 := bif_inv e
      clear e
      obtain ⟨h1, e1⟩ := e1
      have e2 := bif_inv e1
      clear e1
      obtain ⟨h2, e2⟩ := e2
      have e3 := cellsAt_inv e2
      clear e2
      obtain ⟨cs, g, e3⟩ := e3
      have e4 := bif_inv e3
      clear e3
      obtain ⟨h3, e⟩ := e4
      have h1 := ble_le h1
      have h2 := ble_le h2
      have h3 : o + n * szOf C.P el ≤ cs.length := ble_le h3
      cases mx' <;> simp only [ORelV] at hm
      obtain ⟨p, hp, rfl⟩ := ptr_inv hv
      obtain ⟨info, hi2, _⟩ := info_of_sz hs
      have hlen := row_len r hp g
      have hb := bounds_ok (P := C.P) (isS := false) (len := n) (cap := n) w hl hh ea eb h1 h2
      have hmul : a * szOf C.P el + (n - a) * szOf C.P el = n * szOf C.P el := by rw [← Nat.add_mul]; congr 1; omega
      refine ⟨.slice (some (if n = a then ⟨p.b, p.o + o, none⟩ else ⟨p.b, p.o + o + a * szOf C.P el, none⟩)) (b - a) (n - a), ?_, done_same r e ?_⟩
      · simp only [Instr.sliceAt, Sem.run_bind, run_underlying ht, Result.andThen_ok, Instr.sureAddr, Sem.run_pure, hb, run_sizeOf' hi2, Addr.add_eq]
      · simp only [VRel]
        refine ⟨p, hp, _, _, rfl, Nat.sub_le_sub_right h2 a, fun x hx => by cases hx; rfl, by split <;> rfl, by split <;> rfl, fun hne => by rw [if_neg (by omega)]; exact Nat.add_assoc _ _ _, ?_⟩
        show p.o + (o + a * szOf C.P el) + (n - a) * szOf C.P el ≤ p.n
        omega
    · cases e
  · cases e
theorem slS_ok {t el : TypeId} {x : AV} {v : Value} {lo hi mx : Option AV} {lo' hi' mx' : Option Value} (r : HRel C β h w) (ht : C.P.underlying t = some (.slice el)) (hs : Nat.blt 0 (szOf C.P el) = true) (hv : VRel β x v)
    (hl : ORelV β lo lo') (hh : ORelV β hi hi') (hm : ORelV β mx mx') (e : slS (szOf C.P el) x lo hi mx (fun v => k v h) = some out) :
    ∃ y, (Instr.sliceAt t v lo' hi' mx').run C.P w = .ok y w ∧ Done C β h w k out y w := by
  obtain ⟨info, hi2, _⟩ := info_of_sz hs
  have hat : ∀ v lo hi mx, Instr.sliceAt t v lo hi mx = (do match ← underlying t with
      | .array n elem =>
        let a ← Instr.sureAddr v
        let (l, h, m) ← Instr.sliceBounds false n n lo hi mx
        let size ← sizeOf elem
        pure (.slice (some (if m = l then a else a.add (l * size))) (h - l) (m - l))
      | _ => Instr.slice t v lo hi mx) := fun _ _ _ _ => rfl
  unfold slS at e
  split at e
  · rename_i l o n c s
    have e1 := bif_inv e
    clear e
    obtain ⟨hsz, e⟩ := e1
    have hsz := beq_eq hsz
    obtain ⟨p, hp, ad, m, rfl, hnm, hc, hb, hsp, hoff, hbd⟩ := slice_inv hv
    have hcap : capOr n c ≤ m := by cases c with
      | none => exact hnm
      | some c => simp only [capOr]; rw [hc c rfl]; exact Nat.le_refl _
    have fin : ∀ (a b m' : Nat), a ≤ b → b ≤ m' → m' ≤ m → (Instr.sliceBounds true n m lo' hi' mx').run C.P w = .ok (a, b, m') w → ∀ (c' : Option Nat), (∀ x, c' = some x → m' - a = x) →
        k (.slice l (o + a * szOf C.P el) (b - a) c' (szOf C.P el)) h = some out → ∃ y, (Instr.sliceAt t (.slice (some ad) n m) lo' hi' mx').run C.P w = .ok y w ∧ Done C β h w k out y w := by
      intro a b m' hab hbm hmm hbr c' hc' e
      refine ⟨.slice (some (if m' = a then ad else ad.add (a * szOf C.P el))) (b - a) (m' - a), ?_, done_same r e ?_⟩
      · rw [hat]
        simp only [Sem.run_bind, run_underlying ht, Result.andThen_ok, Instr.slice, hbr, run_sizeOf' hi2, Sem.run_pure]
        split <;> rfl
      · simp only [VRel]
        have hmul : a * szOf C.P el + (m - a) * szOf C.P el = m * szOf C.P el := by rw [← Nat.add_mul]; congr 1; omega
        have hmul2 : (m' - a) * szOf C.P el ≤ (m - a) * szOf C.P el := Nat.mul_le_mul_right _ (by omega)
        have hadd : ∀ q, (ad.add q).block = p.b ∧ (ad.add q).spot = none := fun q => by
          unfold Addr.add; split
          · exact ⟨hb, hsp⟩
          · exact ⟨hb, rfl⟩
        refine ⟨p, hp, _, _, rfl, by omega, hc', by split; exact hb; exact (hadd _).1, by split; exact hsp; exact (hadd _).2, fun hne => ?_, ?_⟩
        · rw [if_neg (by omega)]
          have := addr_of hb hsp (hoff (by omega))
          subst this
          rw [Addr.add_eq]; simp [Nat.add_assoc]
        · rw [← hsz] at hmul hmul2 ⊢
          omega
    split at e
    · rename_i a b ea eb
      split at e
      · have e1 := bif_inv e
        clear e
        obtain ⟨h1, e1⟩ := e1
        have e2 := bif_inv e1
        clear e1
        obtain ⟨h2, e⟩ := e2
        have h1 := ble_le h1
        have h2 := ble_le h2
        cases mx' <;> simp only [ORelV] at hm
        refine fin a b m h1 (by omega) (Nat.le_refl _) (bounds_ok (P := C.P) w hl hh ea eb h1 (by omega)) _ ?_ e
        intro x hx
        cases c with
        | none => cases hx
        | some c => simp only [Option.some.injEq] at hx; rw [hc c rfl]; exact hx
      · rename_i mxa
        cases mx' <;> simp only [ORelV] at hm
        rename_i mv
        split at e
        · rename_i m' hi1 em
          have e1 := bif_inv e
          clear e
          obtain ⟨h1, e1⟩ := e1
          have e2 := bif_inv e1
          clear e1
          obtain ⟨h2, e2⟩ := e2
          have e3 := bif_inv e2
          clear e2
          obtain ⟨h3, e⟩ := e3
          have h1 := ble_le h1
          have h2 := ble_le h2
          have h3 := ble_le h3
          cases hi' <;> simp only [ORelV] at hh
          exact fin a b m' h1 h2 (by omega) (bounds3_ok (P := C.P) w hl hh hm ea eb em h1 h2 (by omega)) _ (fun x hx => by cases hx; rfl) e
        · cases e
    · cases e
  · split at e
    · rename_i ea eb
      simp only [VRel] at hv
      subst hv
      cases mx' <;> simp only [ORelV] at hm
      have := bounds_ok (P := C.P) (isS := true) (len := 0) (cap := 0) w hl hh ea eb (Nat.le_refl _) (Nat.le_refl _)
      refine ⟨.slice none 0 0, ?_, done_same r e (by simp [VRel])⟩
      rw [hat]
      simp only [Sem.run_bind, run_underlying ht, Result.andThen_ok, Instr.slice, this, run_sizeOf' hi2, Sem.run_pure]
      simp
    · cases e
  · cases e
end
end Go.Ai
/-
  THE ABSTRACT INTERPRETER: rows that are read whole, appends, copies: what each says of the model's own built-ins.
-/
namespace Go.Ai
open Go

section
variable {R : Type} {out : R} {C : Ctx} {β : Be} {h : Heap} {w : World} {k : AV → Heap → Option R}
theorem lenOf_ok {P : Program} {x : AV} {v : Value} {n : Nat} (w : World) (hv : VRel β x v) (e : lenOf x = some n) : (Builtin.lenOf v).run P w = .ok n w := by
  unfold lenOf at e
  split at e
  · cases e; obtain ⟨p, _, a, m, rfl, _⟩ := slice_inv hv; rfl
  · cases e; simp only [VRel] at hv; subst hv; rfl
  · cases e; obtain ⟨s, rfl, rfl⟩ := str_inv hv; simp [Builtin.lenOf]
  · cases e
theorem bytes_rel : ∀ l : List UInt8, VRels β ((l.map UInt8.toNat).map fun b => AV.int .u8 (.ofNat b)) (l.map fun b => Value.int .u8 b.toNat)
  | [] => VRels.nil
  | b :: l => VRels.cons (by simp [VRel]) (bytes_rel l)
theorem rowOf_ok {P : Program} {sz n : Nat} {x : AV} {v : Value} {k : List AV → Option R} (r : HRel C β h w) (hv : VRel β x v) (e : rowOf sz h x n k = some out) :
    ∃ us xs, (Builtin.firstCells sz n v).run P w = .ok (List.toArray xs) w ∧ VRels β us xs ∧ all1 us = true ∧ xs.length = n * sz ∧ k us = some out := by
  unfold rowOf at e
  split at e
  · rename_i l o m c s
    have e1 := bif_inv e
    clear e
    obtain ⟨h1, e1⟩ := e1
    have e2 := bif_inv e1
    clear e1
    obtain ⟨h2, e2⟩ := e2
    have e3 := cellsAt_inv e2
    clear e2
    obtain ⟨cs, g, e3⟩ := e3
    have e4 := getL_inv e3
    clear e3
    obtain ⟨us, hu, e⟩ := e4
    have h2 := ble_le h2
    obtain ⟨p, hp, a, mm, rfl, hnm, _, hb, hsp, hoff, _⟩ := slice_inv hv
    by_cases hm : mm = 0
    · have hn : n = 0 := by omega
      subst hn
      obtain ⟨_, rfl⟩ := sub_eq cs o _ us hu
      exact ⟨_, [], by simp [Builtin.firstCells, loadCells, loadCellsFrom], by simp [VRels.nil], by simp [all1], by simp, e⟩
    · have := addr_of hb hsp (hoff hm)
      subst this
      obtain ⟨xs, hx, hr, ha, hl⟩ := cells_of (P := P) r hp g hu
      exact ⟨us, xs, by simpa [Builtin.firstCells] using hx, hr, ha, hl, e⟩
  · have e1 := bif_inv e
    clear e
    obtain ⟨h1, e⟩ := e1
    have h1 := beq_eq h1
    subst h1
    simp only [VRel] at hv
    subst hv
    exact ⟨[], [], by simp [Builtin.firstCells], VRels.nil, rfl, by simp, e⟩
  · rename_i s
    have e1 := bif_inv e
    clear e
    obtain ⟨h1, e⟩ := e1
    have h1 := beq_eq h1
    subst h1
    split at e
    · rename_i r' hr'
      obtain ⟨t, rfl, rfl⟩ := str_inv hv
      obtain ⟨hle, rfl⟩ := takeN_eq _ _ _ hr'
      refine ⟨_, (t.data.toList.take n).map fun b => Value.int .u8 b.toNat, ?_, ?_, ?_, ?_, e⟩
      · simp only [Builtin.firstCells, Sem.run_pure]
        congr 1
        apply Array.ext'
        simp [ByteArray.data_extract, List.extract_eq_take_drop]
      · rw [← List.map_take]; exact bytes_rel _
      · exact all1_of (by intro a ha; obtain ⟨b, _, rfl⟩ := List.mem_map.1 ha; rfl)
      · simp at hle ⊢; omega
    · cases e
  · cases e
/-- cells of a block that are written, wherever they stand -/
theorem write_raw {P : Program} {b q : Nat} {L : List Value} {elem : TypeId} {xs : List Value} (hb : w.heap[b]? = some (.cells L.toArray elem (0, 0))) (hle : q + xs.length ≤ L.length) (h1 : ∀ v ∈ xs, v.oneCell' = true) :
    ∃ H : Array Go.Obj, (storeCells ⟨b, q, none⟩ xs).run P w = .ok () { w with heap := H } ∧ H.size = w.heap.size ∧ (∀ j, j ≠ b → H[j]? = w.heap[j]?) ∧
      H[b]? = some (.cells (L.take q ++ (xs ++ L.drop (q + xs.length))).toArray elem (0, 0)) := by
  have hst := run_storeCells_at P b q elem xs 0 L.toArray w hb (by simp; omega) h1
  refine ⟨(w.setRow b (L.take q ++ (xs ++ L.drop (q + xs.length))).toArray).heap, ?_, by simp [World.setRow], fun j hj => by simp [World.setRow, Array.getElem?_modify, Ne.symm hj], by simp [World.setRow, Array.getElem?_modify, hb]⟩
  rw [hst]
  simp only [Nat.add_zero, List.append_assoc]
  rfl
theorem next_cap {need c : Nat} (hc : c < need) : Builtin.nextslicecap need c ≤ 2 * need + 256 := by
  unfold Builtin.nextslicecap
  split
  · omega
  · split
    · omega
    · have key : ∀ (r q : Nat), q ≤ 2 * need + 256 → Builtin.growBy need r q ≤ 2 * need + 256 := by
        intro r
        induction r with
        | zero => intro q hq; exact hq
        | succ r ih =>
          intro q hq
          simp only [Builtin.growBy]
          split
          · exact hq
          · exact ih _ (by omega)
      exact key 4 c (by omega)
theorem zeroCells_size (zero : Array Value) (n : Nat) : (Builtin.zeroCells zero n).size = n * zero.size := by simp [Builtin.zeroCells]
/-- the append that makes a new row -/
theorem app_new {t u ty el : TypeId} {d : TypeDesc} {z : Value} {s x : Value} {base : Option Addr} {n m cp : Nat} {old new : List Value} (us : List AV) (h' : Heap) (r : HRel C β h' w) (ht : C.P.underlying t = some (.slice el)) (hd : C.P.underlying u = some d) (hdi : ∀ q, d ≠ .int q)
    (hs : Nat.blt 0 (szOf C.P el) = true) (hz : ∃ i, C.P.info? el = some i ∧ i.zero = some z) (hzs : z.cells.size = szOf C.P el) (hsv : s = .slice base n cp) (hlen : ∀ w, (Builtin.lenOf x).run C.P w = .ok m w) (hlt : cp < n + m) (hroom : roomy (n + m) (byOf C.P el) = true)
    (ho : (Builtin.firstCells (szOf C.P el) n s).run C.P w.drew = .ok old.toArray w.drew) (hn : (Builtin.firstCells (szOf C.P el) m x).run C.P w.drew = .ok new.toArray w.drew) (hl : old.length + new.length = (n + m) * szOf C.P el)
    (hu : VRels β us (old ++ new)) (e : mkSlice h' us (n + m) (szOf C.P el) none k = some out) :
    ∃ y w', (Builtin.append_ #[t, u] ty #[s, x]).run C.P w = .ok y w' ∧ Done C β h' w k out y w' := by
  obtain ⟨zi, hzi, hz1⟩ := hz
  obtain ⟨info, hi, hsz, hby⟩ := info_of_sz hs
  obtain rfl : info = zi := Option.some.inj (hi.symm.trans hzi)
  subst hsv
  have hroom : (2 * (n + m) + 256) * (byOf C.P el + 1) ≤ 140737488355328 := ble_le hroom
  have hcap := next_cap hlt
  have hbig : 2 * (n + m) + 256 ≤ 140737488355328 := Nat.le_trans (Nat.le_mul_of_pos_right _ (by omega)) hroom
  have h48' : ¬ (281474976710656 < Builtin.nextslicecap (n + m) cp * info.bytes) := by
    rw [hby]
    have h1 : Builtin.nextslicecap (n + m) cp * byOf C.P el ≤ (2 * (n + m) + 256) * byOf C.P el := Nat.mul_le_mul_right _ hcap
    have h2 : (2 * (n + m) + 256) * byOf C.P el ≤ (2 * (n + m) + 256) * (byOf C.P el + 1) := Nat.mul_le_mul_left _ (by omega)
    omega
  have h63' : ¬ (9223372036854775807 < ((n : Int) + (m : Int))) := by omega
  have hlt' : ¬ (n + m ≤ cp) := by omega
  rw [← hsz] at ho hn hzs hl
  have hrun : (Builtin.append_ #[t, u] ty #[.slice base n cp, x]).run C.P w =
      .ok (.slice (some ⟨w.heap.size, 0, none⟩) (n + m) (grownCap w (n + m) cp el)) (w.drew.alloc (.cells ((old ++ new) ++ (Builtin.zeroCells z.cells (grownCap w (n + m) cp el - (n + m))).toList).toArray el)) := by

    simp [Builtin.append_, run_underlying ht, run_underlying hd, sizeOf, typeInfo, zeroValue, hi, hz1, hlen, hlt', h63', h48', Question.forced, hn, ho, newRow, grownCap]
    congr 2
    apply Array.ext'
    simp
  have hgc : n + m ≤ grownCap w (n + m) cp el := by simp [grownCap, Question.cut]
  have rD : HRel C β h' w.drew := r.world rfl
  have eD : Ext β h' w β h' w.drew := Ext.world rfl rfl rfl rfl
  obtain ⟨w2, hw2, β', q, h2, e2, hv2, hr2, he2⟩ := mkSlice_ok (rest := (Builtin.zeroCells z.cells (grownCap w (n + m) cp el - (n + m))).toList) el (grownCap w (n + m) cp el) rD hu hgc (fun _ hx => by cases hx) (by
    simp only [List.length_append, Array.length_toList, zeroCells_size, hzs]
    rw [hl, hsz, ← Nat.add_mul]
    exact Nat.mul_le_mul_right _ (by omega)) e
  have hw2' : w2 = w.drew.alloc (.cells ((old ++ new) ++ (Builtin.zeroCells z.cells (grownCap w (n + m) cp el - (n + m))).toList).toArray el) := by
    simp only [newRow, Sem.run_bind, run_newObj, Result.andThen_ok, Sem.run_pure] at hw2
    cases hw2; rfl
  subst hw2'
  exact ⟨_, _, hrun, β', q, h2, e2, hv2, hr2, eD.trans he2⟩
end
end Go.Ai
/-
  THE ABSTRACT INTERPRETER: append, copy, clear: what each says of the model's own built-in.
-/
namespace Go.Ai
open Go

section
variable {R : Type} {out : R} {C : Ctx} {β : Be} {h : Heap} {w : World} {k : AV → Heap → Option R}
/-- the append that needs no room -/
theorem app_in_place {t u ty el : TypeId} {d : TypeDesc} {x : Value} {base : Option Addr} {n m cp : Nat} {new : List Value} {w' : World} (ht : C.P.underlying t = some (.slice el)) (hd : C.P.underlying u = some d) (hdi : ∀ q, d ≠ .int q)
    (hs : Nat.blt 0 (szOf C.P el) = true) (hlen : (Builtin.lenOf x).run C.P w = .ok m w) (hle : n + m ≤ cp) (hn : (Builtin.firstCells (szOf C.P el) m x).run C.P w = .ok new.toArray w)
    (hst : ∀ a, base = some a → (storeCells (a.add (n * szOf C.P el)) new).run C.P w = .ok () w') (hw : base = none → w' = w) :
    (Builtin.append_ #[t, u] ty #[.slice base n cp, x]).run C.P w = .ok (.slice base (n + m) cp) w' := by
  obtain ⟨info, hi, hsz, hby⟩ := info_of_sz hs
  rw [← hsz] at hn hst
  cases base with
  | none =>
    obtain rfl := hw rfl
    simp [Builtin.append_, run_underlying ht, run_underlying hd, sizeOf, typeInfo, hi, hlen, hle, hn]
  | some a =>
    have := hst a rfl
    simp [Builtin.append_, run_underlying ht, run_underlying hd, sizeOf, typeInfo, hi, hlen, hle, hn, this]
theorem app_ok {t u ty el : TypeId} {d : TypeDesc} {z : Value} {s x : AV} {v q : Value} (r : HRel C β h w) (ht : C.P.underlying t = some (.slice el)) (hd : C.P.underlying u = some d) (hdi : ∀ q, d ≠ .int q)
    (hs : Nat.blt 0 (szOf C.P el) = true) (hz : ∃ i, C.P.info? el = some i ∧ i.zero = some z) (hzs : z.cells.size = szOf C.P el) (hv : VRel β s v) (hq : VRel β x q)
    (e : app (szOf C.P el) (byOf C.P el) h s x k = some out) : ∃ y w', (Builtin.append_ #[t, u] ty #[v, q]).run C.P w = .ok y w' ∧ Done C β h w k out y w' := by
  have hszpos := blt_lt hs
  have rD : HRel C β h w.drew := r.world rfl
  unfold app at e
  split at e
  · cases e
  · -- nothing is appended
    rename_i h0
    have hl := lenOf_ok (P := C.P) w hq h0
    have hf : (Builtin.firstCells (szOf C.P el) 0 q).run C.P w = .ok (List.toArray []) w := by
      unfold lenOf at h0
      split at h0
      · cases h0; obtain ⟨p, _, a, m, rfl, _⟩ := slice_inv hq; simp [Builtin.firstCells, loadCells, loadCellsFrom]
      · simp only [VRel] at hq; subst hq; simp [Builtin.firstCells]
      · obtain ⟨s, rfl, rfl⟩ := str_inv hq
        simp [Builtin.firstCells]
      · cases h0
    split at e
    · simp only [VRel] at hv; subst hv
      exact ⟨_, w, app_in_place (new := []) ht hd hdi hs hl (Nat.le_refl _) hf (fun a ha => by cases ha) (fun _ => rfl), done_same r e (by simp [VRel])⟩
    · rename_i l o n c zz
      have e1 := bif_inv e
      clear e
      obtain ⟨_, e⟩ := e1
      obtain ⟨p, hp, a, m, rfl, hnm, rest⟩ := slice_inv hv
      exact ⟨_, w, app_in_place (new := []) ht hd hdi hs hl (by omega) hf (fun a _ => by simp [storeCells]) (fun ha => by cases ha), done_same r e hv⟩
    · cases e
  · rename_i m hm0 hm
    have hl := fun w => lenOf_ok (P := C.P) w hq hm
    obtain ⟨us, xs, hx, hxr, hxa, hxl, e1⟩ := rowOf_ok (P := C.P) r hq e
    obtain ⟨us', xs', hx', hxr', _, hxl', e1'⟩ := rowOf_ok (P := C.P) rD hq e
    clear e
    split at e1
    · -- nil
      simp only [VRel] at hv; subst hv
      have e2 := bif_inv e1'
      clear e1 e1'
      obtain ⟨hroom, e⟩ := e2
      have hmpos : 0 < m := Nat.pos_of_ne_zero (fun h => hm0 h)
      exact app_new (old := []) us' h r ht hd hdi hs hz hzs rfl hl (by omega) (by simpa using hroom) (by simp [Builtin.firstCells]) hx' (by simpa using hxl') (by simpa using hxr') (by simpa using e)
    · -- the capacity is known
      rename_i l o n c zz
      have e2 := bif_inv e1
      have e2' := bif_inv e1'
      clear e1 e1'
      obtain ⟨hzz, e⟩ := e2
      obtain ⟨_, e'⟩ := e2'
      have hzz := beq_eq hzz
      subst hzz
      obtain ⟨p, hp, a, mm, rfl, hnm, hc, hb, hsp, hoff, hbd⟩ := slice_inv hv
      have hmm := hc c rfl
      subst hmm
      have hmpos : 0 < m := Nat.pos_of_ne_zero (fun h => hm0 h)
      cases hble : Nat.ble (Nat.add n m) mm
      · rw [hble, cond_false] at e'
        have hlt : mm < n + m := by
          have : ¬ (n + m ≤ mm) := fun hh => by rw [show Nat.ble (Nat.add n m) mm = true from Nat.ble_eq_true_of_le hh] at hble; cases hble
          omega
        have e3 := bif_inv e'
        clear e e'
        obtain ⟨hroom, e⟩ := e3
        have e4 := cellsAt_inv e
        clear e
        obtain ⟨cs, g, e⟩ := e4
        have e5 := getL_inv e
        clear e
        obtain ⟨old, ho, e⟩ := e5
        have hold : ∃ os : List Value, (Builtin.firstCells (szOf C.P el) n (.slice (some a) n mm)).run C.P w.drew = .ok os.toArray w.drew ∧ VRels β old os ∧ os.length = n * szOf C.P el := by
          by_cases h0 : mm = 0
          · have hn0 : n = 0 := by omega
            subst hn0
            obtain ⟨_, rfl⟩ := sub_eq cs o _ old ho
            exact ⟨[], by simp [Builtin.firstCells, loadCells, loadCellsFrom], by simp [VRels.nil], by simp⟩
          · have := addr_of hb hsp (hoff h0)
            subst this
            obtain ⟨os, h1, h2, _, h4⟩ := cells_of (P := C.P) rD hp g ho
            exact ⟨os, by simpa [Builtin.firstCells] using h1, h2, h4⟩
        obtain ⟨os, ho1, ho2, ho3⟩ := hold
        exact app_new (old := os) (old ++ us') h r ht hd hdi hs hz hzs rfl hl hlt hroom ho1 hx' (by rw [ho3, hxl', ← Nat.add_mul]) (ho2.append hxr') e
      · rw [hble, cond_true] at e
        have hle : n + m ≤ mm := ble_le hble
        have := addr_of hb hsp (hoff (by omega))
        subst this
        obtain ⟨w', h', hs1, hr1, he1, e⟩ := putL_ok r hp hxr e
        refine ⟨_, w', app_in_place (new := xs) ht hd hdi hs (hl w) hle hx (fun a ha => by cases ha; rw [Addr.add_eq, Nat.add_assoc]; exact hs1) (fun ha => by cases ha), β, _, h', e, ?_, hr1, he1⟩
        simp only [VRel]
        exact ⟨p, hp, _, _, rfl, hle, fun x hx => by cases hx; rfl, rfl, rfl, fun _ => rfl, hbd⟩
    · -- the capacity is not known
      rename_i l o n zz
      have e2 := bif_inv e1
      have e2' := bif_inv e1'
      clear e1 e1'
      obtain ⟨hzz, e⟩ := e2
      obtain ⟨_, e'⟩ := e2'
      have hzz := beq_eq hzz
      subst hzz
      obtain ⟨p, hp, a, mm, rfl, hnm, _, hb, hsp, hoff, hbd⟩ := slice_inv hv
      have hmpos : 0 < m := Nat.pos_of_ne_zero (fun h => hm0 h)
      have e3 := bif_inv e
      have e3' := bif_inv e'
      clear e e'
      obtain ⟨hroom, e⟩ := e3
      obtain ⟨_, e'⟩ := e3'
      have e4 := rowAt_inv e
      have e4' := rowAt_inv e'
      clear e e'
      obtain ⟨cs, g, e⟩ := e4
      obtain ⟨cs', g', e'⟩ := e4'
      rw [g] at g'; cases g'
      have e5 := getL_inv e
      have e5' := getL_inv e'
      clear e e'
      obtain ⟨old, ho, e⟩ := e5
      obtain ⟨old', ho', e'⟩ := e5'
      rw [ho] at ho'; cases ho'
      by_cases hle : n + m ≤ mm
      · have := addr_of hb hsp (hoff (by omega))
        subst this
        obtain ⟨pre, mid, post, elem, hbl, hpre, hpn, hmr, hma⟩ := r.obj l p _ hp g
        obtain ⟨hsub, rfl⟩ := sub_eq cs o _ old ho
        have hsub : o + n * szOf C.P el ≤ cs.length ∨ n * szOf C.P el = 0 := hsub
        have hml := hmr.length
        have hmul : n * szOf C.P el + m * szOf C.P el ≤ mm * szOf C.P el := by rw [← Nat.add_mul]; exact Nat.mul_le_mul_right _ hle
        have hL : (pre ++ (mid ++ post)).length = p.n := hpn
        obtain ⟨H, hst, hHs, hHo, hHb⟩ := write_raw (P := C.P) (q := p.o + o + n * szOf C.P el) (xs := xs) hbl (by rw [hL, hxl]; omega) (all1_rel hxr hxa)
        have hLo : p.o + o ≤ (pre ++ (mid ++ post)).length := by rw [hL]; omega
        have hsplit : (pre ++ (mid ++ post)).take (p.o + o + n * szOf C.P el) = (pre ++ (mid ++ post)).take (p.o + o) ++ ((mid.drop o).take (n * szOf C.P el)) := by
          rw [List.take_add]
          congr 1
          rw [← hpre, ← List.drop_drop, List.drop_left]
          by_cases h0 : n * szOf C.P el = 0
          · simp [h0]
          · have hsub : o + n * szOf C.P el ≤ mid.length := by omega
            rw [List.drop_append_of_le_length (by omega), List.take_append_of_le_length (by simp; omega)]
        have hmv := r.moved hp g (fun _ => by simp) (o' := .cells ((cs.drop o).take (n * szOf C.P el) ++ us)) (q := ⟨p.b, p.o + o, p.n⟩) rfl hHs hHo
          ⟨(pre ++ (mid ++ post)).take (p.o + o), (mid.drop o).take (n * szOf C.P el) ++ xs, (pre ++ (mid ++ post)).drop (p.o + o + n * szOf C.P el + xs.length), elem, by
              rw [hHb, hsplit]; simp [List.append_assoc], by simp only [List.length_take]; omega, by
              show _ = p.n
              rw [← hL, ← List.append_assoc, ← List.append_assoc, ← hsplit]
              simp only [List.length_append, List.length_take, List.length_drop] at hL ⊢
              omega,
            (((hmr.drop o).take _).mono (Be.sub_put r _)).append (hxr.mono (Be.sub_put r _)),
            all1_of (by
              intro a ha
              rcases List.mem_append.1 ha with ha | ha
              · exact all1_mem hma a (List.mem_of_mem_drop (List.mem_of_mem_take ha))
              · exact all1_mem hxa a ha)⟩
        unfold mkSlice at e
        have e6 := bif_inv e
        clear e
        obtain ⟨_, e⟩ := e6
        refine ⟨_, _, app_in_place (new := xs) ht hd hdi hs (hl w) hle hx (fun a ha => by cases ha; rw [Addr.add_eq]; exact hst) (fun ha => by cases ha), _, .slice h.next 0 (n + m) none (szOf C.P el), _, e, ?_, hmv.1, hmv.2⟩
        simp only [VRel]
        refine ⟨_, Be.put_self _ _ _, _, _, rfl, hle, (fun x hx => by cases hx), rfl, rfl, fun _ => rfl, ?_⟩
        show p.o + o + 0 + mm * szOf C.P el ≤ p.n
        omega
      · have hgone := r.gone hp (fun cs' hc => by rw [g] at hc; cases hc)
        have hold : ∃ os : List Value, (Builtin.firstCells (szOf C.P el) n (.slice (some a) n mm)).run C.P w.drew = .ok os.toArray w.drew ∧ VRels β old os ∧ os.length = n * szOf C.P el := by
          by_cases h0 : mm = 0
          · have hn0 : n = 0 := by omega
            subst hn0
            obtain ⟨_, rfl⟩ := sub_eq cs o _ old ho
            exact ⟨[], by simp [Builtin.firstCells, loadCells, loadCellsFrom], by simp [VRels.nil], by simp⟩
          · have := addr_of hb hsp (hoff h0)
            subst this
            obtain ⟨os, h1, h2, _, h4⟩ := cells_of (P := C.P) rD hp (.inl g) ho
            exact ⟨os, by simpa [Builtin.firstCells] using h1, h2, h4⟩
        obtain ⟨os, ho1, ho2, ho3⟩ := hold
        obtain ⟨y, w', hrun, β', uu, h2, e2, hv2, hr2, he2⟩ := app_new (old := os) (old ++ us') (h.del l) hgone.1 ht hd hdi hs hz hzs rfl hl (by omega) hroom ho1 hx' (by rw [ho3, hxl', ← Nat.add_mul]) (ho2.append hxr') e'
        exact ⟨y, w', hrun, β', uu, h2, e2, hv2, hr2, hgone.2.trans he2⟩
    · cases e1
end
end Go.Ai
/-
  THE ABSTRACT INTERPRETER: copy, clear, maps, new rows, texts: what each says of the model's own operation.
-/
namespace Go.Ai
open Go

section
variable {R : Type} {out : R} {C : Ctx} {β : Be} {h : Heap} {w : World} {k : AV → Heap → Option R}
theorem cpy_ok {t el : TypeId} {ts : List TypeId} {ty : TypeId} {s x : AV} {v q : Value} (r : HRel C β h w) (ht : C.P.underlying t = some (.slice el)) (hs : Nat.blt 0 (szOf C.P el) = true) (hv : VRel β s v) (hq : VRel β x q)
    (e : cpy (szOf C.P el) h s x k = some out) : ∃ y w', (Builtin.copy_ (t :: ts).toArray ty #[v, q]).run C.P w = .ok y w' ∧ Done C β h w k out y w' := by
  obtain ⟨info, hi, hsz, hby⟩ := info_of_sz hs
  unfold cpy at e
  split at e
  · rename_i l o n c z m hm
    have e1 := bif_inv e
    clear e
    obtain ⟨hz, e⟩ := e1
    have hz := beq_eq hz
    subst hz
    have hl := lenOf_ok (P := C.P) w hq hm
    obtain ⟨p, hp, a, mm, rfl, hnm, hc, hb, hsp, hoff, hbd⟩ := slice_inv hv
    have fin : ∀ j, j = Nat.min m n → rowOf (szOf C.P el) h x j (fun vs => putL h l o vs fun h' => k (.int .i64 (.ofNat j)) h') = some out →
        ∃ y w', (Builtin.copy_ (t :: ts).toArray ty #[.slice (some a) n mm, q]).run C.P w = .ok y w' ∧ Done C β h w k out y w' := by
      intro j hj e
      obtain ⟨us, xs, hx, hxr, hxa, hxl, e⟩ := rowOf_ok (P := C.P) r hq e
      by_cases h0 : mm = 0
      · have hj0 : j = 0 := by rw [hj]; show min m n = 0; omega
        subst hj0
        have hx0 : xs = [] := List.length_eq_zero_iff.1 (by simpa using hxl)
        subst hx0
        have hu0 : us = [] := List.length_eq_zero_iff.1 (by simpa using hxr.length)
        subst hu0
        obtain ⟨w', h', hs1, hr1, he1, e⟩ := putL_ok r hp VRels.nil e
        have hw : w' = w := by simp [storeCells] at hs1; exact hs1.symm
        subst hw
        refine ⟨.int .i64 0, w', ?_, β, .int .i64 0, h', by simpa using e, by simp [VRel], hr1, he1⟩
        have hmin : Nat.min m n = 0 := hj.symm
        rw [hsz] at *
        simp [Builtin.copy_, run_underlying ht, hl, hmin, run_sizeOf' hi, hx, storeCells, goInt]
      · have := addr_of hb hsp (hoff h0)
        subst this
        obtain ⟨w', h', hs1, hr1, he1, e⟩ := putL_ok r hp hxr e
        refine ⟨.int .i64 j, w', ?_, β, .int .i64 j, h', e, by simp [VRel], hr1, he1⟩
        simp [Builtin.copy_, run_underlying ht, hl, ← hj, run_sizeOf' hi, hx, hs1, goInt]
    cases hble : Nat.ble m n
    · rw [hble, cond_false] at e
      refine fin n ?_ e
      have : ¬ (m ≤ n) := fun hh => by rw [Nat.ble_eq_true_of_le hh] at hble; cases hble
      show n = min m n; omega
    · rw [hble, cond_true] at e
      have hle := ble_le hble
      refine fin m ?_ e
      show m = min m n; omega
  · rename_i m hm
    have hl := lenOf_ok (P := C.P) w hq hm
    simp only [VRel] at hv
    subst hv
    have hf : (Builtin.firstCells (szOf C.P el) 0 q).run C.P w = .ok (List.toArray []) w := by
      unfold lenOf at hm
      split at hm
      · obtain ⟨p, _, a, m, rfl, _⟩ := slice_inv hq; simp [Builtin.firstCells, loadCells, loadCellsFrom]
      · simp only [VRel] at hq; subst hq; simp [Builtin.firstCells]
      · obtain ⟨s, rfl, rfl⟩ := str_inv hq
        simp [Builtin.firstCells]
      · cases hm
    refine ⟨.int .i64 0, w, ?_, done_same r e (by simp [VRel])⟩
    have hmin : Nat.min m 0 = 0 := Nat.min_zero m
    simp [Builtin.copy_, run_underlying ht, hl, run_sizeOf' hi, hf, goInt]
  · cases e
theorem zeroCells_list (z : List Value) (hz : 0 < z.length) : ∀ n, (Builtin.zeroCells z.toArray n).toList = (List.replicate n z).flatten := by
  intro n
  simp only [Builtin.zeroCells]
  have hget : ∀ i, i < n * z.length → z.toArray[i % z.toArray.size]! = z[i % z.length]'(Nat.mod_lt _ hz) := by
    intro i _
    have : i % z.length < z.length := Nat.mod_lt _ hz
    simp [this]
  apply List.ext_getElem?
  intro i
  by_cases hi : i < n * z.length
  · have h1 : ((Array.range (n * z.toArray.size)).map fun i => z.toArray[i % z.toArray.size]!).toList[i]? = some (z[i % z.length]'(Nat.mod_lt _ hz)) := by
      simp [hi]
      have := hget i hi
      simpa using this
    rw [h1]
    symm
    clear h1 hget
    induction n generalizing i with
    | zero => simp at hi
    | succ n ih =>
      simp only [List.replicate_succ, List.flatten_cons]
      by_cases hlt : i < z.length
      · rw [List.getElem?_append_left hlt, List.getElem?_eq_getElem hlt]
        simp [Nat.mod_eq_of_lt hlt]
      · rw [List.getElem?_append_right (by omega), ih (i - z.length) (by rw [Nat.succ_mul] at hi; omega)]
        congr 2
        rw [← Nat.sub_add_cancel (show z.length ≤ i by omega)]
        simp
  · have h1 : ((Array.range (n * z.toArray.size)).map fun i => z.toArray[i % z.toArray.size]!).toList[i]? = none := by
      simp; omega
    have h2 : ((List.replicate n z).flatten)[i]? = none := by
      simp [List.length_flatten]; omega
    rw [h1, h2]
theorem clr_ok {t el : TypeId} {ts : List TypeId} {ty : TypeId} {x : AV} {v : Value} {z : List AV} {zv : Value} (r : HRel C β h w) (ht : C.P.underlying t = some (.slice el)) (hs : Nat.blt 0 (szOf C.P el) = true)
    (hz : ∀ w, (zeroValue el).run C.P w = .ok zv w) (hzr : VRels β z zv.cells.toList) (hzl : z.length = szOf C.P el) (hv : VRel β x v)
    (e : clr z (szOf C.P el) h x k = some out) : ∃ w', (Builtin.clear_ (t :: ts).toArray ty #[v]).run C.P w = .ok (.tuple #[]) w' ∧ Done C β h w k out (.tuple #[]) w' := by
  unfold clr at e
  split at e
  · simp only [VRel] at hv; subst hv
    exact ⟨w, by simp [Builtin.clear_, run_underlying ht], done_same r e (by simp [VRel, VRels.nil])⟩
  · rename_i l o c s
    obtain ⟨p, hp, a, m, rfl, _⟩ := slice_inv hv
    exact ⟨w, by simp [Builtin.clear_, run_underlying ht], done_same r e (by simp [VRel, VRels.nil])⟩
  · rename_i l o n c s hn0
    have e1 := bif_inv e
    clear e
    obtain ⟨h1, e⟩ := e1
    have h1 := beq_eq h1
    subst h1
    obtain ⟨p, hp, a, m, rfl, hnm, hc, hb, hsp, hoff, hbd⟩ := slice_inv hv
    have hnpos : n ≠ 0 := fun hh => hn0 hh
    have := addr_of hb hsp (hoff (by omega))
    subst this
    have hrep := hzr.rep n
    obtain ⟨w', h', hs1, hr1, he1, e⟩ := putL_ok r hp hrep e
    refine ⟨w', ?_, β, .tup [], h', e, by simp [VRel, VRels.nil], hr1, he1⟩
    have hzc : (Builtin.zeroCells zv.cells n).toList = (List.replicate n zv.cells.toList).flatten := by
      have := zeroCells_list zv.cells.toList (by rw [← hzr.length, hzl]; exact blt_lt hs) n
      simpa using this
    obtain ⟨n', rfl⟩ : ∃ n', n = n' + 1 := ⟨n - 1, by omega⟩
    simp [Builtin.clear_, run_underlying ht, hz, hzc, hs1]
  · cases e
end
end Go.Ai
/-
  THE ABSTRACT INTERPRETER: maps by numbers: what each says of the model's own operation.
-/
namespace Go.Ai
open Go

section
variable {R : Type} {out : R} {C : Ctx} {β : Be} {h : Heap} {w : World} {k : AV → Heap → Option R}
theorem isInt_inv {a : AV} {v : Value} (hv : VRel β a v) (e : isInt a = true) : ∃ q n, a = .int q n ∧ v = .int q n := by
  cases a <;> simp [isInt] at e
  exact ⟨_, _, rfl, int_inv hv⟩
theorem find_ok {kd : IntKind} {q : IntKind} {a : Int} : ∀ {es : List (AV × AV)} {ents : List MapEntry} {r : Option AV} (i : Nat), MRel β es ents → mfind (.int q a) es = some r →
    (r = none ∧ Instr.findNow (.int kd) (.int q a) ents i = some none) ∨ (∃ u j x, r = some u ∧ Instr.findNow (.int kd) (.int q a) ents i = some (some (j, x)) ∧ VRel β u x)
  | [], _, r, i, hm, e => by simp only [MRel] at hm; subst hm; simp only [mfind] at e; cases e; exact .inl ⟨rfl, rfl⟩
  | (k1, v1) :: es, _, r, i, hm, e => by
    simp only [MRel] at hm
    obtain ⟨en, rest, rfl, hk, hkv, hvv, _, hm⟩ := hm
    obtain ⟨q1, a1, rfl, hke⟩ := isInt_inv hkv hk
    simp only [mfind, aeq1] at e
    cases hq : keq q q1
    · simp [hq] at e
    · have := keq_eq hq; subst this
      simp only [hq, cond_true] at e
      rw [ieq_eq] at e
      simp only [Instr.findNow, hke, Instr.sameNow, if_true]
      cases hc : (a == a1)
      · simp only [hc] at e ⊢
        exact find_ok (i + 1) hm e
      · simp only [hc] at e ⊢
        cases e
        exact .inr ⟨v1, i, en.val, rfl, rfl, hvv⟩
theorem put_ok {kd : IntKind} {q : IntKind} {a : Int} {v : AV} {x : Value} (hv : VRel β v x) (hg : good v = true) : ∀ {es es' : List (AV × AV)} {ents : List MapEntry} (i : Nat), MRel β es ents → mput (.int q a) v es = some es' →
    (Instr.findNow (.int kd) (.int q a) ents i = some none ∧ ∀ b, MRel β es' (ents ++ [⟨.int q a, x, b⟩])) ∨
    (∃ j y e0, Instr.findNow (.int kd) (.int q a) ents i = some (some (i + j, y)) ∧ ents[j]? = some e0 ∧ e0.key = .int q a ∧ MRel β es' (ents.modify j fun e => { e with key := .int q a, val := x }))
  | [], es', _, i, hm, e => by
    simp only [MRel] at hm; subst hm; simp only [mput] at e; cases e
    exact .inl ⟨rfl, fun b => by simp only [MRel, List.nil_append]; exact ⟨_, [], rfl, rfl, by simp [VRel], hv, hg, rfl⟩⟩
  | (k1, v1) :: es, es', _, i, hm, e => by
    simp only [MRel] at hm
    obtain ⟨en, rest, rfl, hk, hkv, hvv, hg1, hm⟩ := hm
    obtain ⟨q1, a1, rfl, hke⟩ := isInt_inv hkv hk
    simp only [mput, aeq1] at e
    cases hq : keq q q1
    · simp [hq] at e
    · have := keq_eq hq; subst this
      simp only [hq, cond_true] at e
      rw [ieq_eq] at e
      simp only [Instr.findNow, hke, Instr.sameNow, if_true]
      cases hc : (a == a1)
      · simp only [hc] at e ⊢
        split at e
        · rename_i r1 hr1
          cases e
          rcases put_ok hv hg (i + 1) hm hr1 with ⟨h1, h2⟩ | ⟨j, y, e0, h1, h2, h3, h4⟩
          · refine .inl ⟨h1, fun b => ?_⟩
            simp only [List.cons_append, MRel]
            exact ⟨_, _, rfl, hk, hkv, hvv, hg1, h2 b⟩
          · refine .inr ⟨j + 1, y, e0, by rw [h1]; congr 3; omega, by simpa using h2, h3, ?_⟩
            simp only [List.modify_succ_cons, MRel]
            exact ⟨_, _, rfl, hk, hkv, hvv, hg1, h4⟩
        · cases e
      · simp only [hc] at e ⊢
        cases e
        have := eq_of_beq hc
        subst this
        refine .inr ⟨0, en.val, en, rfl, rfl, hke, ?_⟩
        simp only [List.modify_zero_cons, MRel]
        exact ⟨_, _, rfl, rfl, by simp [VRel], hv, hg, hm⟩
theorem del_ok {kd : IntKind} {q : IntKind} {a : Int} : ∀ {es es' : List (AV × AV)} {ents : List MapEntry} (i : Nat), MRel β es ents → mdel (.int q a) es = some es' →
    (Instr.findNow (.int kd) (.int q a) ents i = some none ∧ MRel β es' ents) ∨ (∃ j y, Instr.findNow (.int kd) (.int q a) ents i = some (some (i + j, y)) ∧ MRel β es' (ents.eraseIdx j))
  | [], es', _, i, hm, e => by simp only [MRel] at hm; subst hm; simp only [mdel] at e; cases e; exact .inl ⟨rfl, by simp [MRel]⟩
  | (k1, v1) :: es, es', _, i, hm, e => by
    simp only [MRel] at hm
    obtain ⟨en, rest, rfl, hk, hkv, hvv, hg1, hm⟩ := hm
    obtain ⟨q1, a1, rfl, hke⟩ := isInt_inv hkv hk
    simp only [mdel, aeq1] at e
    cases hq : keq q q1
    · simp [hq] at e
    · have := keq_eq hq; subst this
      simp only [hq, cond_true] at e
      rw [ieq_eq] at e
      simp only [Instr.findNow, hke, Instr.sameNow, if_true]
      cases hc : (a == a1)
      · simp only [hc] at e ⊢
        split at e
        · rename_i r1 hr1
          cases e
          rcases del_ok (i + 1) hm hr1 with ⟨h1, h2⟩ | ⟨j, y, h1, h2⟩
          · refine .inl ⟨h1, ?_⟩
            simp only [MRel]
            exact ⟨_, _, rfl, hk, hkv, hvv, hg1, h2⟩
          · refine .inr ⟨j + 1, y, by rw [h1]; congr 3; omega, ?_⟩
            simp only [List.eraseIdx_cons_succ, MRel]
            exact ⟨_, _, rfl, hk, hkv, hvv, hg1, h2⟩
        · cases e
      · simp only [hc] at e ⊢
        cases e
        exact .inr ⟨0, en.val, rfl, by simpa using hm⟩
theorem run_checkKey {P : Program} {empty : Bool} {n : Nat} {t : TypeId} {kd q : IntKind} {a : Int} (w : World) (ht : P.underlying t = some (.int kd)) : (Instr.checkKey empty (n + 1) t (.int q a)).run P w = .ok () w := by
  simp [Instr.checkKey, run_underlying ht]
theorem run_findKey {P : Program} {t : TypeId} {kd q : IntKind} {a : Int} {ents : List MapEntry} {r : Option (Nat × Value)} (w : World) (ht : P.underlying t = some (.int kd)) (h : Instr.findNow (.int kd) (.int q a) ents 0 = some r) :
    (Instr.findKey t (.int q a) ents).run P w = .ok r w := by
  simp [Instr.findKey, run_underlying ht, h]
theorem map_inv {l : Nat} {v : Value} (hv : VRel β (.map l) v) : ∃ p, β l = some p ∧ v = .map (some p.b) := by simpa only [VRel] using hv
theorem lkp_ok {t kt et : TypeId} {kd : IntKind} {info : TypeInfo} {zv : Value} {ok : Bool} {x key : AV} {v q : Value} (r : HRel C β h w) (ht : C.P.underlying t = some (.map kt et)) (hk : C.P.underlying kt = some (.int kd))
    (hi : C.P.info? et = some info) (hz : info.zero = some zv) (hv : VRel β x v) (hq : VRel β key q) (e : lkp (ofV zv) ok h x key (fun v => k v h) = some out) :
    ∃ y, (Instr.lookup t v q ok).run C.P w = .ok y w ∧ Done C β h w k out y w := by
  have hzr : ∀ w, (zeroValue et).run C.P w = .ok zv w := fun w => by simp [zeroValue, typeInfo, hi, hz]
  have two : ∀ (u : AV) (y : Value) (b : Bool), VRel β u y → k (bif ok then .tup [u, .bool b] else u) h = some out → VRel β (bif ok then .tup [u, .bool b] else u) (if ok then .tuple #[y, .bool b] else y) := by
    intro u y b hu _
    cases ok
    · simpa using hu
    · simp only [cond_true, if_true, VRel]
      exact ⟨_, rfl, VRels.cons hu (VRels.cons (by simp [VRel]) VRels.nil)⟩
  unfold lkp at e
  have e1 := bif_inv e
  clear e
  obtain ⟨hint, e⟩ := e1
  obtain ⟨kq, a, rfl, rfl⟩ := isInt_inv hq hint
  have hck : ∀ (b : Bool) (w : World), (Instr.checkKey b 10000 kt (.int kq a)).run C.P w = .ok () w := fun b w => run_checkKey (n := 9999) w hk
  split at e
  · simp only [VRel] at hv; subst hv
    refine ⟨_, ?_, done_same r e (two _ zv false (ofV_rel zv) e)⟩
    simp [Instr.lookup, run_underlying ht, hck, run_findKey w hk (show Instr.findNow (.int kd) (.int kq a) [] 0 = some none from rfl), hzr]
  · rename_i l
    have e2 := mapAt_inv e
    clear e
    obtain ⟨es, g, e⟩ := e2
    obtain ⟨p, hp, rfl⟩ := map_inv hv
    obtain ⟨ents, clock, hb, hm⟩ := r.obj l p _ hp g
    have hobj : (getObj p.b).run C.P w = .ok (.map ents clock) w := by simp [getObj, Sem.run, hb]
    split at e
    · rename_i u hf
      rcases find_ok (kd := kd) 0 hm hf with ⟨h1, _⟩ | ⟨u', j, y, h1, h2, h3⟩
      · cases h1
      · cases h1
        refine ⟨_, ?_, done_same r e (two u y true h3 e)⟩
        simp [Instr.lookup, run_underlying ht, hobj, hck, run_findKey w hk h2]
    · rename_i hf
      rcases find_ok (kd := kd) 0 hm hf with ⟨_, h2⟩ | ⟨u', j, y, h1, _⟩
      · refine ⟨_, ?_, done_same r e (two _ zv false (ofV_rel zv) e)⟩
        simp [Instr.lookup, run_underlying ht, hobj, hck, run_findKey w hk h2, hzr]
      · cases h1
    · cases e
  · cases e
theorem setMap_ok {l : Nat} {p : Pl} {es es' : List (AV × AV)} {ents ents' : Array MapEntry} {clock clock' : Nat} (r : HRel C β h w) (hp : β l = some p) (g : h.get l = some (.map es)) (hb : w.heap[p.b]? = some (.map ents clock)) (hm : MRel β es' ents'.toList) :
    ∃ w', (setObj p.b (.map ents' clock')).run C.P w = .ok () w' ∧ HRel C β (h.set l (.map es')) w' ∧ Ext β h w β (h.set l (.map es')) w' := by
  have hlt := r.lt l p hp
  have hput := r.put (o' := .map es') hp g (fun _ => by simp) (H := w.heap.setIfInBounds p.b (.map ents' clock')) (by simp) (fun b hne => by simp [Ne.symm hne])
    ⟨ents', clock', by simp [hlt], hm⟩
  exact ⟨_, by simp [setObj, Sem.run, hb], hput.1, hput.2⟩
theorem mup_ok {t kt et : TypeId} {kd : IntKind} {x key u : AV} {v q z : Value} (r : HRel C β h w) (ht : C.P.underlying t = some (.map kt et)) (hk : C.P.underlying kt = some (.int kd))
    (hv : VRel β x v) (hq : VRel β key q) (hz : VRel β u z) (e : mup h x key u (fun h => k (.tup []) h) = some out) :
    ∃ w', (Instr.mapUpdate t v q z).run C.P w = .ok () w' ∧ Done C β h w k out Go.undef w' := by
  unfold mup at e
  have e1 := bif_inv e
  clear e
  obtain ⟨hint, e⟩ := e1
  have e1 := bif_inv e
  clear e
  obtain ⟨hgood, e⟩ := e1
  obtain ⟨kq, a, rfl, rfl⟩ := isInt_inv hq hint
  have hck : ∀ (b : Bool) (w : World), (Instr.checkKey b 10000 kt (.int kq a)).run C.P w = .ok () w := fun b w => run_checkKey (n := 9999) w hk
  split at e
  · rename_i l
    have e2 := mapAt_inv e
    clear e
    obtain ⟨es, g, e⟩ := e2
    obtain ⟨p, hp, rfl⟩ := map_inv hv
    obtain ⟨ents, clock, hb, hm⟩ := r.obj l p _ hp g
    have hobj : (getObj p.b).run C.P w = .ok (.map ents clock) w := by simp [getObj, Sem.run, hb]
    split at e
    · rename_i es' hput
      rcases put_ok (kd := kd) hz hgood 0 hm hput with ⟨h1, h2⟩ | ⟨j, y, e0, h1, h2, h3, h4⟩
      · obtain ⟨w', hs, hr1, he1⟩ := setMap_ok (clock' := clock + 1) (ents' := ents.push ⟨.int kq a, z, clock⟩) r hp g hb (by simpa using h2 clock)
        refine ⟨w', ?_, β, .tup [], _, e, VRel.undef, hr1, he1⟩
        simp [Instr.mapUpdate, run_underlying ht, hobj, hck, run_findKey w hk h1, hs]
      · obtain ⟨w', hs, hr1, he1⟩ := setMap_ok (clock' := clock) (ents' := ents.modify j fun e => { e with key := .int kq a, val := z }) r hp g hb (by simpa using h4)
        refine ⟨w', ?_, β, .tup [], _, e, VRel.undef, hr1, he1⟩
        have h2' : ents[j]? = some e0 := by simpa using h2
        have hkey : (((ents[j]?).map (·.key)).getD (.int kq a)) = .int kq a := by rw [h2']; exact h3
        have hst : (Instr.keyThatStays (.int kq a) (.int kq a)).run C.P w = .ok (.int kq a) w := by
          have : Instr.sameBits 10000 (.int kq a) (.int kq a) = true := by simp [Instr.sameBits]
          simp [Instr.keyThatStays, this]
        simp only [Nat.zero_add] at h1
        simp only [Instr.mapUpdate, Sem.run_bind, run_underlying ht, Result.andThen_ok, hobj, hck, run_findKey w hk h1, hkey, hst, hs]
    · cases e
  · cases e
theorem mdl_ok {t kt et ty : TypeId} {ts : List TypeId} {kd : IntKind} {x key : AV} {v q : Value} (r : HRel C β h w) (ht : C.P.underlying t = some (.map kt et)) (hk : C.P.underlying kt = some (.int kd))
    (hv : VRel β x v) (hq : VRel β key q) (e : mdl h x key (fun h => k (.tup []) h) = some out) :
    ∃ w', (Builtin.delete_ (t :: ts).toArray ty #[v, q]).run C.P w = .ok (.tuple #[]) w' ∧ Done C β h w k out (.tuple #[]) w' := by
  unfold mdl at e
  have e1 := bif_inv e
  clear e
  obtain ⟨hint, e⟩ := e1
  obtain ⟨kq, a, rfl, rfl⟩ := isInt_inv hq hint
  have hck : ∀ (b : Bool) (w : World), (Instr.checkKey b 10000 kt (.int kq a)).run C.P w = .ok () w := fun b w => run_checkKey (n := 9999) w hk
  split at e
  · simp only [VRel] at hv; subst hv
    exact ⟨w, by simp [Builtin.delete_, run_underlying ht, hck], done_same r e (by simp [VRel, VRels.nil])⟩
  · rename_i l
    have e2 := mapAt_inv e
    clear e
    obtain ⟨es, g, e⟩ := e2
    obtain ⟨p, hp, rfl⟩ := map_inv hv
    obtain ⟨ents, clock, hb, hm⟩ := r.obj l p _ hp g
    have hobj : (getObj p.b).run C.P w = .ok (.map ents clock) w := by simp [getObj, Sem.run, hb]
    split at e
    · rename_i es' hdel
      rcases del_ok (kd := kd) 0 hm hdel with ⟨h1, h2⟩ | ⟨j, y, h1, h2⟩
      · obtain ⟨w', hs, hr1, he1⟩ := setMap_ok (clock' := clock) (ents' := ents) r hp g hb h2
        refine ⟨w', ?_, β, .tup [], _, e, by simp [VRel, VRels.nil], hr1, he1⟩
        simp [Builtin.delete_, run_underlying ht, hobj, hck, run_findKey w hk h1, hs]
      · obtain ⟨w', hs, hr1, he1⟩ := setMap_ok (clock' := clock) (ents' := ents.eraseIdxIfInBounds j) r hp g hb (by simpa using h2)
        refine ⟨w', ?_, β, .tup [], _, e, by simp [VRel, VRels.nil], hr1, he1⟩
        simp only [Nat.zero_add] at h1
        simp [Builtin.delete_, run_underlying ht, hobj, hck, run_findKey w hk h1, hs]
    · cases e
  · cases e
theorem MRel.length : ∀ {es : List (AV × AV)} {l : List MapEntry}, MRel β es l → es.length = l.length
  | [], _, h => by simp only [MRel] at h; subst h; rfl
  | (_, _) :: es, _, h => by simp only [MRel] at h; obtain ⟨e, r, rfl, _, _, _, _, h⟩ := h; simp [MRel.length h]
theorem mln_ok {t kt et ty : TypeId} {ts : List TypeId} {x : AV} {v : Value} (r : HRel C β h w) (ht : C.P.underlying t = some (.map kt et)) (hv : VRel β x v) (e : mln h x (fun v => k v h) = some out) :
    ∃ y, (Builtin.len_ (t :: ts).toArray ty #[v]).run C.P w = .ok y w ∧ Done C β h w k out y w := by
  unfold mln at e
  split at e
  · simp only [VRel] at hv; subst hv
    exact ⟨.int .i64 0, by simp [Builtin.len_, run_underlying ht, goInt], done_same r e (by simp [VRel])⟩
  · rename_i l
    have e2 := mapAt_inv e
    clear e
    obtain ⟨es, g, e⟩ := e2
    obtain ⟨p, hp, rfl⟩ := map_inv hv
    obtain ⟨ents, clock, hb, hm⟩ := r.obj l p _ hp g
    have hobj : (getObj p.b).run C.P w = .ok (.map ents clock) w := by simp [getObj, Sem.run, hb]
    have hl : es.length = ents.size := by simpa using hm.length
    exact ⟨.int .i64 ents.size, by simp [Builtin.len_, run_underlying ht, hobj, goInt], done_same r e (by simp [VRel, hl])⟩
  · cases e
theorem newMap_ok (r : HRel C β h w) (e : newMap h k = some out) : ∃ w', (newObj (.map #[] 0)).run C.P w = .ok w.heap.size w' ∧ Done C β h w k out (.map (some w.heap.size)) w' := by
  unfold newMap at e
  have := r.alloc (.map []) (.map #[] 0) 0 ⟨#[], 0, by simp, by simp [MRel]⟩
  refine ⟨w.alloc (.map #[] 0), by simp, _, .map h.next, _, e, ?_, this.1, this.2⟩
  simp only [VRel]
  exact ⟨_, Be.put_self _ _ _, rfl⟩
end
end Go.Ai
/-
  THE ABSTRACT INTERPRETER: rows that are built, numbers that are made of others, texts of bytes: what each says of the model's own operation.
-/
namespace Go.Ai
open Go

section
variable {R : Type} {out : R} {C : Ctx} {β : Be} {h : Heap} {w : World} {k : AV → Heap → Option R}
theorem fold_over (off : Nat) (xs : List Value) (cs : Array Value) (hle : off + xs.length ≤ cs.size) :
    ((xs.zipIdx 0).foldl (fun cs (x : Value × Nat) => cs.setIfInBounds (off + x.2) x.1) cs).toList = cs.toList.take off ++ (xs ++ cs.toList.drop (off + xs.length)) := by
  obtain ⟨hs, hk⟩ := Great.foldl_set off xs 0 cs
  apply List.ext_getElem?
  intro i
  rw [Array.getElem?_toList, hk i]
  simp only [Nat.add_zero]
  by_cases h1 : i < off
  · rw [if_neg (by omega), List.getElem?_append_left (by simp; omega), List.getElem?_take_of_lt h1, Array.getElem?_toList]
  · rw [List.getElem?_append_right (by simp; omega)]
    have hm : min off cs.toList.length = off := by simp; omega
    simp only [List.length_take, hm]
    by_cases h2 : i < off + xs.length
    · rw [if_pos (by omega), List.getElem?_append_left (by omega)]
    · rw [if_neg (by omega), List.getElem?_append_right (by omega), List.getElem?_drop, Array.getElem?_toList]
      congr 1
      omega
theorem fill_ok {P : Program} {place : Nat → Option (Nat × Nat)} {tm : List AV} {a : Act} {k : List AV → Option R} (ht : ∀ x, VRel β (evX P tm x) (a.eval x)) : ∀ (parts : List (Nat × Operand)) (cs : List AV) (zs : Array Value), VRels β cs zs.toList → fill P place tm cs parts k = some out →
    ∃ cs' zs', Instr.fill place zs (parts.map fun (i, x) => (i, a.eval x)) = some zs' ∧ VRels β cs' zs'.toList ∧ k cs' = some out
  | [], cs, zs, hz, e => ⟨cs, zs, rfl, hz, e⟩
  | (i, x) :: parts, cs, zs, hz, e => by
    simp only [fill] at e
    split at e
    · cases e
    · rename_i off size hp
      have e1 := getL_inv e
      clear e
      obtain ⟨vs, hv, e⟩ := e1
      have e1 := bif_inv e
      clear e
      obtain ⟨hs, e⟩ := e1
      have e1 := getL_inv e
      clear e
      obtain ⟨cs', hc, e⟩ := e1
      have hs := beq_eq hs
      have hvr := cellsOf_rel (ht x) hv
      have hvl := hvr.length
      obtain ⟨hle, rfl⟩ := over_eq _ _ _ _ hc
      have hzl := hz.length
      simp at hvl hzl
      have hfold := fold_over off (a.eval x).cells.toList zs (by simp; omega)
      have hsz : (a.eval x).cells.size = size := by omega
      obtain ⟨cs2, zs2, h1, h2, h3⟩ := fill_ok ht parts _ (((a.eval x).cells.toList.zipIdx 0).foldl (fun cs (x : Value × Nat) => cs.setIfInBounds (off + x.2) x.1) zs) (by
        rw [hfold]
        refine (hz.take off).append (hvr.append ?_)
        have := hz.drop (off + vs.length)
        simpa [hvl] using this) e
      refine ⟨cs2, zs2, ?_, h2, h3⟩
      simp only [List.map_cons, Instr.fill, hp]
      rw [if_neg (by simp [hsz]; omega)]
      have hz2 : (a.eval x).cells.zipIdx.foldl (fun cs (x : Value × Nat) => cs.setIfInBounds (off + x.2) x.1) zs = ((a.eval x).cells.toList.zipIdx 0).foldl (fun cs (x : Value × Nat) => cs.setIfInBounds (off + x.2) x.1) zs := by
        rw [← Array.foldl_toList]; simp
      rw [← hz2] at h1
      exact h1
theorem mapM_places {P : Program} (w : World) : ∀ (fs : List Field), (fs.all fun f => Nat.blt 0 (szOf P f.type)) = true →
    (fs.mapM fun f => (do pure (f.offset, ← sizeOf f.type) : Sem (Nat × Nat))).run P w = .ok (fs.map fun f => (f.offset, szOf P f.type)) w
  | [], _ => by simp
  | f :: fs, h => by
    simp only [List.all_cons, Bool.and_eq_true] at h
    obtain ⟨i, hi, _⟩ := info_of_sz h.1
    simp only [List.mapM_cons, Sem.run_bind, run_sizeOf' hi, Result.andThen_ok, Sem.run_pure, mapM_places w fs h.2, List.map_cons]
theorem build_struct_ok {t : TypeId} {fs : Array Field} {z : List AV} {tm : List AV} {a : Act} {parts : Array (Nat × Operand)} (r : HRel C β h w) (ht : ∀ x, VRel β (evX C.P tm x) (a.eval x)) (hu : C.P.underlying t = some (.struct fs)) (hz : zeroT C.P t = some z)
    (hf : fieldsOk C.P fs.toList = true) (e : fill C.P (fun i => match fs.toList[i]? with | some f => some (f.offset, szOf C.P f.type) | none => none) tm z parts.toList (fun cs => k (.agg cs) h) = some out) :
    ∃ y, (Instr.build t (parts.map fun (i, x) => (i, a.eval x))).run C.P w = .ok y w ∧ Done C β h w k out y w := by
  obtain ⟨info, zv, hi, hzv, hcz, hzr⟩ := zeroT_run hz
  have hzrel : VRels β z zv.cells.toList := cellsOf_rel (ofV_rel zv) hcz
  obtain ⟨cs', zs', h1, h2, e⟩ := fill_ok ht parts.toList z zv.cells hzrel e
  refine ⟨.agg zs', ?_, done_same r e (by simp only [VRel]; exact ⟨_, rfl, h2⟩)⟩
  have hm : (fs.mapM fun f => (do pure (f.offset, ← sizeOf f.type) : Sem (Nat × Nat))).run C.P w = .ok ((fs.toList.map fun f => (f.offset, szOf C.P f.type)).toArray) w := by
    rw [Array.mapM_eq_mapM_toList]
    simp only [Sem.run_map, mapM_places w fs.toList hf, Result.andThen_ok]
  have hplace : (fun i : Nat => ((fs.toList.map fun f => (f.offset, szOf C.P f.type)).toArray)[i]?) = fun i => match fs.toList[i]? with | some f => some (f.offset, szOf C.P f.type) | none => none := by
    funext i
    simp only [List.getElem?_toArray, List.getElem?_map]
    cases fs.toList[i]? <;> rfl
  simp only [Instr.build, Sem.run_bind, hzr, Result.andThen_ok, run_underlying hu, hm]
  rw [hplace]
  have hpl : (parts.map fun (i, x) => (i, a.eval x)).toList = parts.toList.map fun (i, x) => (i, a.eval x) := by simp
  rw [hpl, h1]
  rfl
theorem build_array_ok {t el : TypeId} {n : Nat} {z : List AV} {tm : List AV} {a : Act} {parts : Array (Nat × Operand)} (r : HRel C β h w) (ht : ∀ x, VRel β (evX C.P tm x) (a.eval x)) (hu : C.P.underlying t = some (.array n el)) (hz : zeroT C.P t = some z)
    (hs : Nat.blt 0 (szOf C.P el) = true) (e : fill C.P (fun i => some (Nat.mul i (szOf C.P el), szOf C.P el)) tm z parts.toList (fun cs => k (.agg cs) h) = some out) :
    ∃ y, (Instr.build t (parts.map fun (i, x) => (i, a.eval x))).run C.P w = .ok y w ∧ Done C β h w k out y w := by
  obtain ⟨info, zv, hi, hzv, hcz, hzr⟩ := zeroT_run hz
  have hzrel : VRels β z zv.cells.toList := cellsOf_rel (ofV_rel zv) hcz
  obtain ⟨i2, hi2, _⟩ := info_of_sz hs
  obtain ⟨cs', zs', h1, h2, e⟩ := fill_ok ht parts.toList z zv.cells hzrel e
  refine ⟨.agg zs', ?_, done_same r e (by simp only [VRel]; exact ⟨_, rfl, h2⟩)⟩
  simp only [Instr.build, Sem.run_bind, hzr, Result.andThen_ok, run_underlying hu, run_sizeOf' hi2]
  have hpl : (parts.map fun (i, x) => (i, a.eval x)).toList = parts.toList.map fun (i, x) => (i, a.eval x) := by simp
  have h1' : Instr.fill (fun i => some (i * szOf C.P el, szOf C.P el)) zv.cells (parts.toList.map fun (i, x) => (i, a.eval x)) = some zs' := h1
  rw [hpl, h1']
  rfl
theorem zeros_range (z : Array Value) (sz n : Nat) (hz : z.size = sz) (hp : 0 < sz) : ((Array.range (n * sz)).map (z[· % z.size]!)).toList = (List.replicate n z.toList).flatten := by
  have := zeroCells_list z.toList (by simp; omega) n
  simp only [Builtin.zeroCells, Array.toArray_toList] at this
  rw [hz] at this ⊢
  exact this
theorem buildSlice_ok {t el : TypeId} {n : Nat} {z : List AV} {tm : List AV} {a : Act} {parts : Array (Nat × Operand)} (r : HRel C β h w) (ht : ∀ x, VRel β (evX C.P tm x) (a.eval x)) (hu : C.P.underlying t = some (.slice el)) (hz : zeroT C.P el = some z)
    (hs : Nat.blt 0 (szOf C.P el) = true) (hzl : z.length = szOf C.P el) (hle : n * szOf C.P el ≤ 16777216) (e : fill C.P (fun i => some (Nat.mul i (szOf C.P el), szOf C.P el)) tm (rep n z) parts.toList (fun cs => mkSlice h cs n (szOf C.P el) (some n) k) = some out) :
    ∃ y w', (Instr.buildSlice t n (parts.map fun (i, x) => (i, a.eval x))).run C.P w = .ok y w' ∧ Done C β h w k out y w' := by
  obtain ⟨info, zv, hi, hzv, hcz, hzr⟩ := zeroT_run hz
  have hzrel : VRels β z zv.cells.toList := cellsOf_rel (ofV_rel zv) hcz
  have hzs : zv.cells.size = szOf C.P el := by have := hzrel.length; simp at this; omega
  have hpos := blt_lt hs
  obtain ⟨i2, hi2, _⟩ := info_of_sz hs
  have hrange := zeros_range zv.cells (szOf C.P el) n hzs hpos
  obtain ⟨cs', zs', h1, h2, e⟩ := fill_ok ht parts.toList (rep n z) ((Array.range (n * szOf C.P el)).map (zv.cells[· % zv.cells.size]!)) (by rw [hrange]; exact hzrel.rep n) e
  -- the length is kept
  have hlen : ∀ (parts : List (Nat × Value)) (pl : Nat → Option (Nat × Nat)) (c c' : Array Value), Instr.fill pl c parts = some c' → c'.size = c.size := by
    intro parts
    induction parts with
    | nil => intro pl c c' h; simp only [Instr.fill] at h; cases h; rfl
    | cons q parts ih =>
      intro pl c c' h
      obtain ⟨i, v⟩ := q
      simp only [Instr.fill] at h
      split at h
      · cases h
      · split at h
        · cases h
        · have := ih _ _ _ h
          rw [this, ← Array.foldl_toList]
          simpa using (Great.foldl_set _ v.cells.toList 0 c).1
  have hl := hlen _ _ _ _ h1
  have hl' : zs'.size = n * szOf C.P el := by simpa using hl
  obtain ⟨w', hw, hd⟩ := mkSlice_ok (rest := []) el n r h2 (Nat.le_refl _) (fun x hx => by cases hx; rfl) (by simp [hl']) e
  refine ⟨_, w', ?_, hd⟩
  have hpl : (parts.map fun (i, x) => (i, a.eval x)).toList = parts.toList.map fun (i, x) => (i, a.eval x) := by simp
  have h24 : (2 : Nat) ^ 24 = 16777216 := by decide
  have hgt : ¬ (n * szOf C.P el > 2 ^ 24) := by rw [h24]; omega
  simp only [Instr.buildSlice, Sem.run_bind, run_underlying hu, Result.andThen_ok, run_sizeOf' hi2, if_neg hgt, Sem.run_pure, Sem.run_ite]
  have h1' : Instr.fill (fun i => some (i * szOf C.P el, szOf C.P el)) ((Array.range (n * szOf C.P el)).map (zv.cells[· % zv.cells.size]!)) (parts.toList.map fun (i, x) => (i, a.eval x)) = some zs' := h1
  have hw' : (newRow el zs').run C.P w = .ok ⟨w.heap.size, 0, none⟩ w' := by simpa using hw
  by_cases h0 : n * szOf C.P el = 0
  · have hr0 : Array.range (n * szOf C.P el) = #[] := by rw [h0]; rfl
    rw [hr0] at h1'
    simp only [h0, if_true, hpl]
    rw [show Array.range 0 = #[] from rfl, Array.map_empty]
    rw [Array.map_empty] at h1'
    rw [h1']
    simp [hw']
  · simp only [h0, if_false, hzr, Result.andThen_ok, hpl]
    rw [h1']
    simp [hw']
theorem mks_ok {t el : TypeId} {z : List AV} {n c : AV} {v q : Value} (r : HRel C β h w) (hu : C.P.underlying t = some (.slice el)) (hz : zeroT C.P el = some z) (hs : Nat.blt 0 (szOf C.P el) = true) (hzl : z.length = szOf C.P el)
    (hv : VRel β n v) (hq : VRel β c q) (e : mks z (szOf C.P el) (byOf C.P el) h n c k = some out) : ∃ y w', (Instr.makeSlice t v q).run C.P w = .ok y w' ∧ Done C β h w k out y w' := by
  obtain ⟨info, zv, hi, hzv, hcz, hzr⟩ := zeroT_run hz
  have hzrel : VRels β z zv.cells.toList := cellsOf_rel (ofV_rel zv) hcz
  have hzs : zv.cells.size = szOf C.P el := by have := hzrel.length; simp at this; omega
  have hpos := blt_lt hs
  obtain ⟨i2, hi2, hsz, hby⟩ := info_of_sz hs
  obtain rfl : i2 = info := Option.some.inj (hi2.symm.trans hi)
  unfold mks at e
  split at e
  · rename_i j m hj hm
    have e1 := bif_inv e
    clear e
    obtain ⟨h1, e⟩ := e1
    have e1 := bif_inv e
    clear e
    obtain ⟨h2, e⟩ := e1
    have e1 := bif_inv e
    clear e
    obtain ⟨h3, e⟩ := e1
    have h1 := ble_le h1
    have h2 : m * byOf C.P el ≤ 140737488355328 := ble_le h2
    have h3 := blt_lt h3
    obtain ⟨k1, rfl⟩ := natOf_inv hv hj
    obtain ⟨k2, rfl⟩ := natOf_inv hq hm
    have hrange := zeros_range zv.cells (szOf C.P el) m hzs hpos
    have hw1 : IntKind.i64.wrap (j : Int) = j := wrap_i64_in (by omega) (by omega)
    have hw2 : IntKind.i64.wrap (m : Int) = m := wrap_i64_in (by omega) (by omega)
    have hrep : VRels β (rep m z) (List.replicate m zv.cells.toList).flatten := hzrel.rep m
    obtain ⟨w', hw, hd⟩ := mkSlice_ok (rest := []) el m r hrep h1 (fun x hx => by cases hx; rfl) (by
      have := hrep.length
      simp only [List.length_nil, Nat.add_zero]
      rw [← hrange]
      simp) e
    refine ⟨_, w', ?_, hd⟩
    have hlt1 : ¬ ((j : Int) > (m : Int)) := by omega
    have h48 : (2 : Int) ^ 48 = 281474976710656 := by decide
    have hb : ¬ ((i2.bytes : Int) * (m : Int) > 281474976710656) := by
      rw [hby]
      have : ((byOf C.P el : Nat) : Int) * (m : Int) = ((m * byOf C.P el : Nat) : Int) := by rw [Int.natCast_mul, Int.mul_comm]
      omega
    have harr : (Array.range (m * szOf C.P el)).map (zv.cells[· % zv.cells.size]!) = ((List.replicate m zv.cells.toList).flatten).toArray := by
      apply Array.ext'; rw [hrange]
    have hw' : (newRow el ((Array.range (m * szOf C.P el)).map (zv.cells[· % zv.cells.size]!))).run C.P w = .ok ⟨w.heap.size, 0, none⟩ w' := by rw [harr]; simpa using hw
    have hneg1 : ¬ ((m : Int) < 0) := by omega
    have hneg2 : ¬ ((j : Int) < 0) := by omega
    by_cases h0 : m * szOf C.P el = 0
    · have hm0 : m = 0 := by rcases Nat.mul_eq_zero.1 h0 with h | h <;> omega
      subst hm0
      obtain rfl : j = 0 := by omega
      rw [h0] at hw'
      rw [show Array.range 0 = #[] from rfl, Array.map_empty] at hw'
      have hw0 : IntKind.i64.wrap 0 = 0 := by decide
      simp [Instr.makeSlice, run_underlying hu, asInt, asIntOf, run_typeInfo' hi, hw0, run_sizeOf' hi]
      rw [show Array.range 0 = #[] from rfl, Array.map_empty, hw']; rfl
    · simp only [Instr.makeSlice, Sem.run_bind, run_underlying hu, Result.andThen_ok, asInt, asIntOf, Sem.run_pure, run_typeInfo' hi, hw1, hw2, h48, hb, hneg1, hneg2, hlt1, decide_false, Bool.or_self, Bool.or_false, Bool.false_eq_true, if_false, run_askRoom, run_sizeOf' hi, Int.toNat_natCast, h0, hzr, hw', Sem.run_ite]
  · cases e
theorem cvI_ok {t d : TypeId} {dk : IntKind} {x : AV} {v : Value} (r : HRel C β h w) (hs : ∃ q, C.P.underlying t = some q) (hd : C.P.underlying d = some (.int dk)) (hv : VRel β x v) (e : cvI dk x (fun v => k v h) = some out) :
    ∃ y, (convert t d v).run C.P w = .ok y w ∧ Done C β h w k out y w := by
  unfold cvI at e
  split at e
  · obtain rfl := int_inv hv
    rename_i q n
    obtain ⟨sd, hs⟩ := hs
    refine ⟨.int dk (dk.wrap n), ?_, done_same r e (by simp only [VRel, wr_eq])⟩
    simp [convert, run_underlying hs, run_underlying hd, Conv.intToInt]
  · cases e
theorem chars_inv : ∀ {cs : List AV} {vs : List Value} {s : List Nat}, VRels β cs vs → chars cs = some s → vs = s.map (fun n : Nat => Value.int .u8 (n : Int)) ∧ ∀ n ∈ s, n < 256
  | [], _, s, hr, e => by simp [VRels] at hr; subst hr; simp [chars] at e; subst e; simp
  | a :: cs, _, s, hr, e => by
    simp only [VRels] at hr
    obtain ⟨v, vs, rfl, hv, hr⟩ := hr
    unfold chars at e
    split at e
    · rename_i heq; cases heq
    · rename_i q n l heq
      cases heq
      have e1 := bif_inv e
      clear e
      obtain ⟨h1, e⟩ := e1
      have e1 := bif_inv e
      clear e
      obtain ⟨h2, e⟩ := e1
      have := keq_eq h1
      subst this
      split at e
      · rename_i s' hs'
        cases e
        obtain ⟨h3, h4⟩ := chars_inv hr hs'
        refine ⟨by rw [int_inv hv, h3]; simp, fun m hm => ?_⟩
        rcases List.mem_cons.1 hm with rfl | hm
        · exact blt_lt h2
        · exact h4 m hm
      · cases e
    · cases e
theorem push_bytes : ∀ (s : List Nat) (b : ByteArray), (∀ n ∈ s, n < 256) → ((s.map (fun n : Nat => (n : Int))).foldl (fun r n => r.push (UInt8.ofNat n.toNat)) b).data.toList.map UInt8.toNat = b.data.toList.map UInt8.toNat ++ s
  | [], b, _ => by simp
  | n :: s, b, h => by
    simp only [List.map_cons, List.foldl_cons]
    rw [push_bytes s _ (fun m hm => h m (by simp [hm]))]
    have := h n (by simp)
    simp [ByteArray.push, Nat.mod_eq_of_lt this]
theorem txt_ok {t d el : TypeId} {x : AV} {v : Value} (r : HRel C β h w) (hs : C.P.underlying t = some (.slice el)) (hd : C.P.underlying d = some .string) (he : isU8 C.P el = true) (hv : VRel β x v) (e : txt h x (fun v => k v h) = some out) :
    ∃ y, (convert t d v).run C.P w = .ok y w ∧ Done C β h w k out y w := by
  have he' : C.P.underlying el = some (.int .u8) := by
    unfold isU8 at he
    split at he
    · assumption
    · cases he
  unfold txt at e
  split at e
  · simp only [VRel] at hv; subst hv
    refine ⟨.string .empty, ?_, done_same r e (by simp only [VRel]; exact ⟨_, rfl, rfl⟩)⟩
    simp [convert, run_underlying hs, run_underlying hd, run_underlying he', Conv.bytesToString]
  · rename_i l o n c s
    have e1 := bif_inv e
    clear e
    obtain ⟨h1, e⟩ := e1
    have e1 := cellsAt_inv e
    clear e
    obtain ⟨cs, g, e⟩ := e1
    have e1 := getL_inv e
    clear e
    obtain ⟨us, hu, e⟩ := e1
    split at e
    · rename_i str hch
      obtain ⟨p, hp, a, m, rfl, hnm, hc, hb, hsp, hoff, hbd⟩ := slice_inv hv
      have hload : ∃ xs : List Value, (loadCells a n).run C.P w = .ok xs.toArray w ∧ VRels β us xs := by
        by_cases h0 : m = 0
        · have hn0 : n = 0 := by omega
          subst hn0
          obtain ⟨_, rfl⟩ := sub_eq cs o _ us hu
          exact ⟨[], by simp [loadCells, loadCellsFrom], by simp [VRels.nil]⟩
        · have := addr_of hb hsp (hoff h0)
          subst this
          obtain ⟨xs, h1, h2, _, _⟩ := cells_of (P := C.P) r hp g hu
          exact ⟨xs, h1, h2⟩
      obtain ⟨xs, hx, hxr⟩ := hload
      obtain ⟨hxs, hlt⟩ := chars_inv hxr hch
      have hrun := run_bytesToString (P := C.P) w a n m (str.map fun n : Nat => (n : Int)) (by rw [hx, hxs]; simp)
      refine ⟨_, ?_, done_same r e (x := .string ((str.map fun n : Nat => (n : Int)).foldl (fun r n => r.push (UInt8.ofNat n.toNat)) ByteArray.empty)) ?_⟩
      · simp only [convert, Sem.run_bind, run_underlying hs, run_underlying hd, Result.andThen_ok, run_underlying he']
        exact hrun
      · simp only [VRel]
        exact ⟨_, rfl, by rw [push_bytes str _ hlt]; rfl⟩
    · cases e
  · cases e
theorem mm_ok {mx : Bool} {x y : AV} {v q : Value} {ts : Array TypeId} {ty : TypeId} (r : HRel C β h w) (hv : VRel β x v) (hq : VRel β y q) (e : mm mx x y (fun v => k v h) = some out) :
    ∃ z, ((if mx then Builtin.max_ ts ty #[v, q] else Builtin.min_ ts ty #[v, q]) : Sem Value).run C.P w = .ok z w ∧ Done C β h w k out z w := by
  unfold mm at e
  split at e
  · rename_i k1 n k2 m
    have e1 := bif_inv e
    clear e
    obtain ⟨h1, e⟩ := e1
    have := keq_eq h1; subst this
    obtain rfl := int_inv hv
    obtain rfl := int_inv hq
    cases mx
    · refine ⟨.int k1 (if m < n then m else n), by simp [Builtin.min_, Builtin.min2], done_same r e ?_⟩
      simp only [cond_false, VRel, ilt_eq]
      by_cases h : m < n <;> simp [h]
    · refine ⟨.int k1 (if m > n then m else n), by simp [Builtin.max_, Builtin.max2], done_same r e ?_⟩
      simp only [cond_true, VRel, ilt_eq]
      by_cases h : n < m <;> simp [h]
  · cases e
theorem slT_ok {t : TypeId} {x : AV} {v : Value} {lo hi : Option AV} {lo' hi' : Option Value} (r : HRel C β h w) (ht : C.P.underlying t = some .string) (hv : VRel β x v)
    (hl : ORelV β lo lo') (hh : ORelV β hi hi') (e : slT x lo hi (fun v => k v h) = some out) :
    ∃ y, (Instr.sliceAt t v lo' hi' none).run C.P w = .ok y w ∧ Done C β h w k out y w := by
  unfold slT at e
  split at e
  · rename_i s
    obtain ⟨b, rfl, rfl⟩ := str_inv hv
    split at e
    · rename_i i j ei ej
      have e1 := bif_inv e
      clear e
      obtain ⟨h1, e⟩ := e1
      have e1 := bif_inv e
      clear e
      obtain ⟨h2, e⟩ := e1
      have h1 := ble_le h1
      split at e
      · rename_i r' hr'
        obtain ⟨hle, rfl⟩ := sub_eq _ _ _ _ hr'
        have hj : j ≤ b.size := by simpa using ble_le h2
        have ej' : optNat b.size hi = some j := by simpa using ej
        have hb := bounds_ok (P := C.P) (isS := false) (len := b.size) (cap := b.size) w hl hh ei ej' h1 hj
        refine ⟨.string (b.extract i j), ?_, done_same r e ?_⟩
        · simp only [Instr.sliceAt, Sem.run_bind, run_underlying ht, Result.andThen_ok, Instr.slice]
          simp [hb]
        · simp only [VRel]
          refine ⟨_, rfl, ?_⟩
          simp [ByteArray.data_extract, List.extract_eq_take_drop]
      · cases e
    · cases e
  · cases e
end
end Go.Ai
