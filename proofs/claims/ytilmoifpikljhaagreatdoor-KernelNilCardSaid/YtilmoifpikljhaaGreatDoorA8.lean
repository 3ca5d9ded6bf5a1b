/-
  A RUN THAT KEEPS ALL THAT WAS: what the arguments read as before is what they read as behind; the post of a law that answers true. And: what rows of bytes among the arguments are.
-/
import Derived.Test.YtilmoifpikljhaaGreatDoorA7
import Derived.ProofKit
import Derived.OpenShut
import Derived.JoinedOf
import Derived.Handed
import Derived.DataShut
set_option linter.unusedVariables false
set_option linter.unusedSimpArgs false
namespace Go.Ai
open Go Go.ChangeShapes Go.WideShapes
section
variable {H : Type} {enc : TypeId × Value → H} {P : Program} {w w' : World} {held : Bool}

/-- bool, numbers, and slices, structs and arrays of them -/
def plainT (P : Program) : Nat → TypeId → Bool
  | 0, _ => false
  | n + 1, t => match P.underlying t with
    | some .bool => true
    | some (.int _) => true
    | some (.slice e) => Nat.blt 0 (P.cellsOf e) && plainT P n e
    | some (.struct fs) => fs.toList.all fun f => plainT P n f.type
    | some (.array _ e) => plainT P n e
    | _ => false
theorem cell?_keep (hk : ∀ b, b < w.heap.size → w'.heap[b]? = w.heap[b]?) {a : Addr} {v : Value} (h : w.cell? a = some v) : w'.cell? a = some v := by
  have hb : a.block < w.heap.size := by
    cases hh : w.heap[a.block]? with
    | none => simp [World.cell?, hh] at h
    | some o => exact (Array.getElem?_eq_some_iff.1 hh).1
  unfold World.cell? at h ⊢
  rw [hk _ hb]
  exact h
theorem cells?_keep (hk : ∀ b, b < w.heap.size → w'.heap[b]? = w.heap[b]?) {base n : Nat} {a : Addr} {cs : List Value} (h : w.cells? base a n = some cs) : w'.cells? base a n = some cs := by
  unfold World.cells? at h ⊢
  split at h
  · rw [if_pos (by assumption)]
    exact mapM_mono (fun x y => cell?_keep hk) h
  · cases h
theorem trod_array_mk {t e : TypeId} {base m n : Nat} {spare : Nat → Bool} {cs : List Value} {xs : List (DataW H × List MemPlace)} (ht : P.underlying t = some (.array m e)) (hl : cs.length = P.cellsOf t)
    (hp : (List.range m).mapM (fun i => DataW.trod enc P w base spare held n e ((cs.drop (i * P.cellsOf e)).take (P.cellsOf e))) = some xs) :
    DataW.trod enc P w base spare held (n + 1) t cs = some (.agg (xs.map (·.1)), xs.flatMap (·.2)) := by
  unfold DataW.trod
  rw [ht]
  split <;> simp_all
theorem row_mem {a : Addr} {n : Nat} (h : 0 < n) : ∃ p ∈ MemPlace.row a n, p.block = a.block := by
  refine ⟨.cell a.block a.off, ?_, rfl⟩
  simp only [MemPlace.row, List.mem_map, List.mem_range]
  exact ⟨0, h, by simp⟩
theorem trod_keep (hk : ∀ b, b < w.heap.size → w'.heap[b]? = w.heap[b]?) {sp : Nat → Bool} : ∀ (fuel k : Nat) (t : TypeId) (cs : List Value) (x : DataW H × List MemPlace), plainT P k t = true →
    DataW.trod enc P w 0 (fun _ => true) held fuel t cs = some x → (∀ p ∈ x.2, sp p.block = true) → DataW.trod enc P w' 0 sp held fuel t cs = some x
  | 0, _, _, _, _, _, h, _ => by simp [DataW.trod] at h
  | _ + 1, 0, _, _, _, hp, _, _ => by simp [plainT] at hp
  | fuel + 1, k + 1, t, cs, x, hp, h, hs => by
    unfold plainT at hp
    split at hp
    · rename_i ht
      obtain ⟨b, rfl, rfl⟩ := DataW.trod_bool ht h
      simp [DataW.trod, ht]
    · rename_i ht
      obtain ⟨b, rfl, rfl, hw⟩ := DataW.trod_int ht h
      simp [DataW.trod, ht, hw]
    · rename_i e ht
      rw [Bool.and_eq_true] at hp
      obtain ⟨hc, hpe⟩ := hp
      have hc : 0 < P.cellsOf e := blt_lt hc
      rcases DataW.trod_slice ht h with ⟨rfl, rfl⟩ | ⟨a, len, cap, elems, rest, n, hf, rfl, rfl, hb, hl, hm, hlen, hel, hsp, _⟩
      · simp [DataW.trod, ht]
      · cases hf
        obtain ⟨hrl, hre⟩ := hsp rfl
        have step : ∀ (i : Nat) (o : Option (DataW H × List MemPlace)) (y : DataW H × List MemPlace), (w.cells? 0 (a.add (i * P.cellsOf e)) (P.cellsOf e)).bind (DataW.trod enc P w 0 (fun _ => true) held fuel e) = o → o = some y → y ∈ elems ++ rest →
            (w'.cells? 0 (a.add (i * P.cellsOf e)) (P.cellsOf e)).bind (DataW.trod enc P w' 0 sp held fuel e) = some y := by
          rintro i o y ho rfl hy
          obtain ⟨cs', h1, h2⟩ := Option.bind_eq_some_iff.1 ho
          rw [cells?_keep hk h1]
          refine trod_keep hk fuel k e cs' y hpe h2 fun p hpp => hs p ?_
          simp only [List.mem_append, List.mem_flatMap]
          exact .inr ⟨y, by simpa using hy, hpp⟩
        have hE : (List.range len).mapM (fun i => (w'.cells? 0 (a.add (i * P.cellsOf e)) (P.cellsOf e)).bind (DataW.trod enc P w' 0 sp held fuel e)) = some elems := by
          refine mapM_some_of_get _ _ (by simp [hlen]) fun i x hx => ?_
          have hi : i < len := by have := (List.getElem?_eq_some_iff.1 hx).1; simpa using this
          obtain rfl : i = x := by simpa [hi] using hx
          have hii : elems[i]? = some elems[i] := List.getElem?_eq_getElem (by omega)
          rw [hii]
          exact step i _ _ (hel i hi) hii (by simp)
        have hR : (List.range (cap - len)).mapM (fun j => (w'.cells? 0 (a.add ((len + j) * P.cellsOf e)) (P.cellsOf e)).bind (DataW.trod enc P w' 0 sp held fuel e)) = some rest := by
          refine mapM_some_of_get _ _ (by simp [hrl]) fun i x hx => ?_
          have hi : i < cap - len := by have := (List.getElem?_eq_some_iff.1 hx).1; simpa using this
          obtain rfl : i = x := by simpa [hi] using hx
          have hii : rest[i]? = some rest[i] := List.getElem?_eq_getElem (by omega)
          rw [hii]
          exact step (len + i) _ _ (hre i hi) hii (by simp)
        unfold DataW.trod
        rw [ht]
        simp only [hb, hl, hm, and_self, if_true, hE, Option.bind_some]
        cases hspa : sp a.block with
        | true => simp [hR]
        | false =>
          have : rest = [] := by
            cases rest with
            | nil => rfl
            | cons y r =>
              obtain ⟨p, hp1, hp2⟩ := row_mem (a := a) (n := (elems.length + (y :: r).length) * P.cellsOf e) (Nat.mul_pos (by simp only [List.length_cons]; omega) hc)
              have := hs p (by simp only [List.mem_append]; exact .inl hp1)
              rw [hp2, hspa] at this
              cases this
          subst this
          simp
    · rename_i fs ht
      obtain ⟨xs, n, hf, rfl, hl, hlen, hfs⟩ := DataW.trod_struct ht h
      cases hf
      refine trod_struct_mk ht hl (mapM_some_of_get _ _ (by simp [hlen]) fun i f hi => ?_)
      have hi' : fs[i]? = some f := by simpa using hi
      have hlt : i < fs.size := (Array.getElem?_eq_some_iff.1 hi').1
      have hii : xs[i]? = some xs[i] := List.getElem?_eq_getElem (by omega)
      have hff := hfs i f hi'
      rw [hii] at hff ⊢
      rw [List.all_eq_true] at hp
      exact trod_keep hk fuel k f.type _ _ (hp f (List.mem_of_getElem? hi)) hff fun p hpp => hs p (by simp only [List.mem_flatMap]; exact ⟨_, List.getElem_mem _, hpp⟩)
    · rename_i m e ht
      obtain ⟨xs, n, hf, rfl, hl, hlen, hfs⟩ := DataW.trod_array ht h
      cases hf
      refine trod_array_mk ht hl (mapM_some_of_get _ _ (by simp [hlen]) fun i x hx => ?_)
      have hi : i < m := by have := (List.getElem?_eq_some_iff.1 hx).1; simpa using this
      obtain rfl : i = x := by simpa [hi] using hx
      have hii : xs[i]? = some xs[i] := List.getElem?_eq_getElem (by omega)
      have hff := hfs i hi
      rw [hii] at hff ⊢
      exact trod_keep hk fuel k e _ _ hp hff fun p hpp => hs p (by simp only [List.mem_flatMap]; exact ⟨_, List.getElem_mem _, hpp⟩)
    · cases hp
theorem trodAll_keep (hk : ∀ b, b < w.heap.size → w'.heap[b]? = w.heap[b]?) {sp : Nat → Bool} {k : Nat} : ∀ {ts : List TypeId} {vs : List Value} {ds : List (DataW H)} {p : List MemPlace}, ts.all (plainT P k) = true →
    DataW.TrodAll enc P w 0 (fun _ => true) held ts vs ds p → (∀ q ∈ p, sp q.block = true) → DataW.TrodAll enc P w' 0 sp held ts vs ds p
  | [], _, _, _, _, h, _ => by
    obtain ⟨rfl, rfl, rfl⟩ := trodAll_nil h
    simp [DataW.TrodAll]
  | t :: ts, _, _, _, hp, h, hs => by
    obtain ⟨v, vs1, d, ds1, a, b, rfl, rfl, rfl, ⟨fuel, h1⟩, h2⟩ := trodAll_cons h
    simp only [List.all_cons, Bool.and_eq_true] at hp
    exact ⟨a, b, ⟨fuel, trod_keep hk fuel k t _ _ hp.1 h1 fun p hpp => hs p (by simp [hpp])⟩, trodAll_keep hk hp.2 h2 fun p hpp => hs p (by simp [hpp]), rfl⟩
/-- THE POST OF A LAW THAT ANSWERS TRUE and leaves all as it was. -/
theorem post_of_kept {f : Func} {s : ChangeSpec} {apart fresh handsOn again : Bool} {W W' : World} {args : Array Value} {ds gs : List (DataW H)} {before : List MemPlace} {k : Nat} {tb : TypeId}
    (hW : DataW.Whole enc P f.params.toList s.vars apart W args.toList ds gs before) (hv : s.vars = []) (hfn : s.fn H (ds ++ gs) = { results := [.lit (.bool true)], args := ds })
    (hr : f.resultTypes = #[tb]) (htb : P.underlying tb = some .bool) (hpl : f.params.toList.all (plainT P k) = true) (hk : Kept W W') :
    s.post enc P f apart fresh handsOn again W args (.bool true) W' := by
  have hlt := hW.lt
  have hW2 := hW
  obtain ⟨p, q, hA, hV, rfl, hz, hn⟩ := hW2
  rw [hv] at hV
  have hq : q = [] ∧ gs = [] := by
    cases gs with
    | nil => exact ⟨hV, rfl⟩
    | cons g gs => exact hV.elim
  obtain ⟨rfl, rfl⟩ := hq
  have hargs : ∀ sp : Nat → Bool, (∀ x ∈ p, sp x.block = true) → DataW.TrodAll enc P W' 0 sp true f.params.toList args.toList ds p := fun sp hs => trodAll_keep hk.2.2.1 hpl hA hs
  have hres : ∀ (b : Nat) (sp : Nat → Bool) (hd : Bool), DataW.TrodAll enc P W' b sp hd f.resultTypes.toList ((Value.bool true).resultList f.resultTypes.size) [.lit (.bool true)] [] := fun b sp hd => by
    rw [hr]
    exact trodAll_mk1 (RowKit.shut_bool htb true)
  have hold : ∀ x ∈ p, (fun b => decide (b < W.heap.size)) x.block = true := fun x hx => by simpa using hlt x (by simp [hx])
  refine ⟨ds, [], p ++ [], [], p, [], hW, ?_, ?_, ?_, ?_, fun _ => ⟨?_, ?_⟩⟩
  · rw [hfn]; exact hres _ _ _
  · rw [hfn]; exact hargs _ hold
  · rw [hfn, hv]; simp [DataW.TrodVars]
  · exact World.keptBut_mono (fun _ f => f.elim) hk.1
  · exact RowKit.ok_one hr rfl (RowKit.okWide_bool_mk htb true)
  · refine ⟨_, [], ([] ++ p) ++ [], ⟨[] ++ p, [], trodAll_append (hargs _ (fun _ _ => rfl)) (hres _ _ _), ?_, rfl, ?_, ?_⟩, ?_⟩
    · rw [hv]; simp [DataW.TrodVars]
    · intro b off hp
      have hp' : MemPlace.cell b off ∈ p ++ [] := by simpa using hp
      have := hlt _ hp'
      rw [hk.2.2.2 _ this]
      exact hz b off hp'
    · intro ha
      simpa using hn ha
    · intro x hx _
      simpa using hx
end
theorem add_eq (b o n : Nat) : Addr.add ⟨b, o, none⟩ n = ⟨b, o + n, none⟩ := by
  unfold Addr.add
  split <;> simp_all
/-- A row of cells among the arguments: nil, or cells of one block. -/
theorem open_row {H : Type} {enc : TypeId × Value → H} {P : Program} {W : World} {held : Bool} {base n : Nat} {u e : TypeId} {v : Value} {x : DataW H × List MemPlace} (hu : P.underlying u = some (.slice e)) (hc : P.cellsOf e = 1)
    (hok : Cell.okWide P W .any base u v) (ht : DataW.trod enc P W 0 (fun _ => true) held n u [v] = some x) :
    v = .slice none 0 0 ∨ ∃ (a : Addr) (len cap : Nat) (cs : Array Value) (elem : TypeId) (fr : Nat × Nat), v = .slice (some a) len cap ∧ len ≤ cap ∧ a.spot = none ∧ W.heap[a.block]? = some (.cells cs elem fr) ∧ (cap ≠ 0 → a.off + cap ≤ cs.size) := by
  rcases DataW.trod_slice hu ht with ⟨h, _⟩ | ⟨a, len, cap, elems, rest, m, rfl, h, rfl, _, hl, _, hlen, hel, hsp, _⟩
  · left; simpa using h
  right
  obtain rfl : v = .slice (some a) len cap := by simpa using h
  simp only [Cell.okWide, hu, Cell.ok, World.has] at hok
  obtain ⟨_, _, _, hs, row, cells, hsh, _⟩ := hok
  unfold World.shape? at hsh
  split at hsh
  · rename_i c elem fr hh
    refine ⟨a, len, cap, c, elem, fr, rfl, hl, hs, hh, fun h0 => ?_⟩
    have key : ∃ cs', W.cells? 0 (a.add ((cap - 1) * P.cellsOf e)) (P.cellsOf e) = some cs' := by
      by_cases hlt : cap - 1 < len
      · have := hel (cap - 1) hlt
        rw [List.getElem?_eq_getElem (by omega)] at this
        obtain ⟨cs', h1, _⟩ := Option.bind_eq_some_iff.1 this
        exact ⟨cs', h1⟩
      · obtain ⟨h1, h2⟩ := hsp rfl
        have := h2 (cap - 1 - len) (by omega)
        rw [List.getElem?_eq_getElem (by omega), show len + (cap - 1 - len) = cap - 1 by omega] at this
        obtain ⟨cs', h1, _⟩ := Option.bind_eq_some_iff.1 this
        exact ⟨cs', h1⟩
    obtain ⟨cs', h1⟩ := key
    obtain ⟨_, hl', hg⟩ := World.cells?_some h1
    rw [hc] at hl' hg
    have h2 := hg 0 (by omega)
    rw [List.getElem?_eq_getElem (by omega)] at h2
    obtain ⟨b, o, sp⟩ := a
    obtain rfl : sp = none := hs
    rw [add_eq, add_eq] at h2
    simp only [World.cell?, hh, Option.isSome_none, Bool.false_eq_true, if_false] at h2
    have := (Array.getElem?_eq_some_iff.1 h2).1
    show o + cap ≤ c.size
    omega
  · cases hsh
theorem vrel_row {β : Be} {l len cap : Nat} {a : Addr} {p : Pl} (hβ : β l = some p) (hb : p.b = a.block) (ho : p.o = 0) (hl : len ≤ cap) (hs : a.spot = none) (hc : cap ≠ 0 → a.off + cap ≤ p.n) :
    VRel β (.slice l (if cap = 0 then 0 else a.off) len (some cap) 1) (.slice (some a) len cap) := by
  simp only [VRel]
  refine ⟨p, hβ, a, cap, rfl, hl, fun x hx => by cases hx; rfl, hb.symm, hs, fun h0 => by rw [if_neg h0, ho]; omega, ?_⟩
  rw [ho]
  split
  · omega
  · rename_i h0; have := hc h0; omega
end Go.Ai
/-
  FROM A ROW's ARGUMENTS AND LAID TABLES TO THE EVALUATOR's: structs of cells, numbers, tables of bytes.
-/
namespace Go.Ai
open Go Go.ChangeShapes Go.WideShapes

/-- a struct each of whose fields is one cell -/
def oneCells (P : Program) (fs : Array Field) : Bool := (List.range fs.size).all fun i => match fs[i]? with
  | some f => Nat.beq f.offset i && Nat.beq (P.cellsOf f.type) 1
  | none => false
theorem oneCells_of {P : Program} {fs : Array Field} (h : oneCells P fs = true) {i : Nat} {f : Field} (hi : fs[i]? = some f) : f.offset = i ∧ P.cellsOf f.type = 1 := by
  have hlt : i < fs.size := (Array.getElem?_eq_some_iff.1 hi).1
  have := List.all_eq_true.1 h i (List.mem_range.2 hlt)
  rw [hi] at this
  simp only [Bool.and_eq_true] at this
  exact ⟨beq_eq this.1, beq_eq this.2⟩
theorem take1 {cs : List Value} {i : Nat} (h : i < cs.length) : (cs.drop i).take 1 = [cs[i]] := by
  rw [List.drop_eq_getElem_cons h]
  rfl
/-- A STRUCT OF CELLS AMONG THE ARGUMENTS. -/
theorem open_struct {H : Type} {enc : TypeId × Value → H} {P : Program} {W : World} {held : Bool} {base : Nat} {ts : TypeId} {fs : Array Field} {v : Value} {d : DataW H} {p : List MemPlace}
    (hs : P.underlying ts = some (.struct fs)) (hone : oneCells P fs = true) (hC : P.cellsOf ts = fs.size) (hct : P.cellTypes P.depth ts = some (fs.toList.map (·.type)))
    (hok : Value.okWide P W .any base ts v) (hd : DataW.Trod enc P W 0 (fun _ => true) held ts v d p) :
    ∃ cs : List Value, v = .agg cs.toArray ∧ cs.length = fs.size ∧ ∀ (i : Nat) (f : Field), fs[i]? = some f → ∃ c n x, cs[i]? = some c ∧ Cell.okWide P W .any base f.type c ∧ DataW.trod enc P W 0 (fun _ => true) held n f.type [c] = some x := by
  simp only [Value.okWide, hs] at hok
  obtain ⟨cs, rfl, hsz, ts', hts, _, hcell⟩ := hok
  rw [hct] at hts
  cases hts
  obtain ⟨fuel, hf⟩ := hd
  obtain ⟨xs, n, _, _, hl, hlen, hfs⟩ := DataW.trod_struct hs hf
  have hl2 : cs.toList.length = fs.size := by simp [hsz, hC]
  refine ⟨cs.toList, by simp, hl2, fun i f hi => ?_⟩
  obtain ⟨ho, hc⟩ := oneCells_of hone hi
  have hlt : i < fs.size := (Array.getElem?_eq_some_iff.1 hi).1
  have hci : i < cs.size := by omega
  obtain ⟨u, hu, hok⟩ := hcell i cs[i] (Array.getElem?_eq_getElem hci)
  have hmod : i % (fs.toList.map (·.type)).length = i := Nat.mod_eq_of_lt (by simpa using hlt)
  rw [hmod] at hu
  have hu' : u = f.type := by
    rw [List.getElem?_map, show fs.toList[i]? = some f by simpa using hi] at hu
    simpa using hu.symm
  subst hu'
  have hff := hfs i f hi
  rw [ho, hc] at hff
  have hx : xs[i]? = some xs[i] := List.getElem?_eq_getElem (by omega)
  rw [hx] at hff
  have e : (((Value.agg cs).cells.toList).drop i).take 1 = [cs[i]] := by
    have : (Value.agg cs).cells = cs := rfl
    rw [this, take1 (by omega)]
    simp
  rw [e] at hff
  exact ⟨cs[i], n, xs[i], by simp [hci], hok, hff⟩
/-- A TABLE OF NUMBERS THAT IS LAID. -/
theorem laid_ints {H : Type} {enc : TypeId × Value → H} {P : Program} {W : World} {sp : Nat → Bool} {held : Bool} {name : String} {g fuel n : Nat} {t e : TypeId} {k : IntKind} {cs : Array Value} {zs : List Int} {p : List MemPlace}
    (hn : P.globalNamed name = some g) (hv : W.var? P name = some cs) (ht : P.underlying t = some (.array n e)) (he : P.underlying e = some (.int k)) (hc : P.cellsOf e = 1) (hct : P.cellsOf t = n)
    (hd : DataW.trod enc P W 0 sp held fuel t cs.toList = some (.agg (zs.map fun z => .lit (.int k z)), p)) : ∃ elem fr, W.heap[g]? = some (.cells cs elem fr) ∧ cs.toList = zs.map (Value.int k) := by
  obtain ⟨xs, m, _, hx, hl, hlen, hel⟩ := DataW.trod_array ht hd
  simp only [Prod.mk.injEq, DataW.agg.injEq] at hx
  have hcs : cs.toList = zs.map (Value.int k) := by
    have hz : zs.length = n := by
      have := congrArg List.length hx.1
      simp at this
      omega
    refine List.ext_getElem (by rw [List.length_map]; omega) fun i h1 h2 => ?_
    have hi : i < n := by omega
    have h3 := hel i hi
    rw [hc, Nat.mul_one, take1 h1, List.getElem?_eq_getElem (by omega : i < xs.length)] at h3
    obtain ⟨z, e1, e2, _⟩ := DataW.trod_int he h3
    have h4 : (xs.map (·.1))[i]? = some (.lit (.int k z)) := by
      rw [List.getElem?_map, List.getElem?_eq_getElem (by omega : i < xs.length), e2]
      rfl
    rw [← hx.1, List.getElem?_map, List.getElem?_eq_getElem (by omega : i < zs.length)] at h4
    simp at h4
    simp at e1
    rw [List.getElem_map, Array.getElem_toList, e1, h4]
  simp only [World.var?, hn, Option.bind_some] at hv
  split at hv
  · rename_i c elem fr hh
    cases hv
    exact ⟨elem, fr, hh, hcs⟩
  · cases hv
theorem vrels_bytes {β : Be} : ∀ l : List Nat, VRels β (l.map fun n => .int .u8 (.ofNat n)) (l.map fun n => Value.int .u8 (.ofNat n))
  | [] => VRels.nil
  | n :: l => VRels.cons (by simp [VRel]) (vrels_bytes l)
theorem all1_bytes : ∀ l : List Nat, Ai.all1 (l.map fun n => AV.int .u8 (.ofNat n)) = true
  | [] => rfl
  | n :: l => by simp only [List.map_cons, all1, cell1, cond_true]; exact all1_bytes l
theorem rowOk_bytes {β : Be} {W : World} {g : Nat} {cs : Array Value} {elem : TypeId} {fr : Nat × Nat} {l : List Nat} (hh : W.heap[g]? = some (.cells cs elem fr)) (hcs : cs.toList = l.map fun n => Value.int .u8 (.ofNat n)) :
    RowOk β W ⟨g, ⟨g, 0, l.length⟩, l.map fun n => .int .u8 (.ofNat n)⟩ := by
  refine ⟨[], cs.toList, [], elem, fr, ?_, rfl, ?_, ?_, all1_bytes l⟩
  · simpa using hh
  · simp [hcs]
  · rw [hcs]; exact vrels_bytes l
/-- a row of which nothing is known -/
theorem rowOk_nil {β : Be} {W : World} {l b : Nat} {cs : Array Value} {elem : TypeId} {fr : Nat × Nat} (hh : W.heap[b]? = some (.cells cs elem fr)) : RowOk β W ⟨l, ⟨b, 0, cs.size⟩, []⟩ :=
  ⟨[], [], cs.toList, elem, fr, by simpa using hh, rfl, by simp, VRels.nil, rfl⟩
/-- THE RELATION AT THE START, where some names stand for nothing. -/
theorem hrel_rows' {C : Ctx} {rs : List Row} {h : Heap} {W : World} (hap : Apart rs) (hget : ∀ l o, h.get l = some o → (∃ r ∈ rs, r.l = l ∧ o = .tab r.cs) ∨ ((∀ r ∈ rs, r.l ≠ l) ∧ l < h.next ∧ o = .tab [])) (hlt : ∀ r ∈ rs, r.l < h.next)
    (hok : ∀ r ∈ rs, RowOk (rowsBe rs) W r) (hg : ∀ g, kg C.P g = true → ∃ r ∈ rs, r.l = g ∧ r.p.b = g ∧ r.p.o = 0) : HRel C (rowsBe rs) h W := by
  have known : ∀ l p o, rowsBe rs l = some p → h.get l = some o → ∃ r ∈ rs, r.l = l ∧ o = .tab r.cs := fun l p o e g => by
    rcases hget l o g with h1 | ⟨h1, _, _⟩
    · exact h1
    · obtain ⟨r, hr, h2, _⟩ := rowsBe_mem e
      exact absurd h2 (h1 r hr)
  refine ⟨fun l p e => ?_, fun l p e => ?_, fun l l' p p' o o' e e' _ _ hb => ?_, fun l p o e g => ?_, fun g hkg => ?_, fun l hl => ?_, fun l cs hl => ?_⟩
  · obtain ⟨r, hr, h1, _⟩ := rowsBe_mem e
    rw [← h1]; exact hlt r hr
  · obtain ⟨r, hr, _, h2⟩ := rowsBe_mem e
    obtain ⟨_, _, _, _, _, e1, _⟩ := hok r hr
    rw [← h2]
    exact (Array.getElem?_eq_some_iff.1 e1).1
  · obtain ⟨r, hr, h1, h2⟩ := rowsBe_mem e
    obtain ⟨s, hs, h3, h4⟩ := rowsBe_mem e'
    rw [← h1, ← h3]
    exact apart_block hap hr hs (by rw [h2, h4]; exact hb)
  · obtain ⟨r, hr, h1, rfl⟩ := known l p o e g
    subst h1
    rw [rowsBe_of hap hr] at e
    cases e
    obtain ⟨pre, mid, post, elem, fr, e1, e2, e3, e4, e5⟩ := hok r hr
    exact ⟨pre, mid, post, elem, fr, e1, e2, e3, e4, e5⟩
  · obtain ⟨r, hr, h1, h2, h3⟩ := hg g hkg
    refine ⟨r.p.n, ?_⟩
    rw [← h1, rowsBe_of hap hr]
    have : r.p = ⟨g, 0, r.p.n⟩ := by rw [← h2, ← h3]
    rw [h1]; exact congrArg some this
  · cases hh : h.get l with
    | none => rfl
    | some o =>
      rcases hget l o hh with ⟨r, hr, h1, _⟩ | ⟨_, h1, _⟩
      · have := hlt r hr; omega
      · omega
  · rcases hl with hl | hl
    · rcases hget l _ hl with ⟨_, _, _, h2⟩ | ⟨_, _, h2⟩ <;> cases h2
    · rcases hget l _ hl with ⟨r, hr, _, h2⟩ | ⟨_, _, h2⟩
      · cases h2
        obtain ⟨_, _, _, _, _, _, _, _, _, e5⟩ := hok r hr
        exact e5
      · cases h2; rfl
/-- .. with rows that are all among the known ones -/
theorem rowsBe_tabs {rs : List Row} {h : Heap} (hall : ∀ r ∈ rs, h.get r.l = some (.tab r.cs)) : ∀ l p, rowsBe rs l = some p → ∃ cs, h.get l = some (.tab cs) := fun l p e => by
  obtain ⟨r, hr, h1, _⟩ := rowsBe_mem e
  exact ⟨r.cs, h1 ▸ hall r hr⟩
/-- A ROW OF BYTES AMONG THE ARGUMENTS, BESIDE TABLES: it may lie in a table's own block. -/
theorem raw_row {C : Ctx} {rs : List Row} {h : Heap} {N : Nat} {W : World} {v : Value} (hap : Apart rs) (hget : ∀ l o, h.get l = some o → (∃ r ∈ rs, r.l = l ∧ o = .tab r.cs) ∨ (l = N ∧ o = .tab [])) (hN : h.get N = some (.tab [])) (hNlt : N < h.next)
    (hne : ∀ r ∈ rs, r.l ≠ N) (hall : ∀ r ∈ rs, h.get r.l = some (.tab r.cs)) (hlt : ∀ r ∈ rs, r.l < h.next) (hok : ∀ β, ∀ r ∈ rs, RowOk β W r) (ho : ∀ r ∈ rs, r.p.o = 0) (hg : ∀ g, kg C.P g = true → ∃ r ∈ rs, r.l = g ∧ r.p.b = g ∧ r.p.o = 0)
    (hv : v = .slice none 0 0 ∨ ∃ (a : Addr) (len cap : Nat) (cs : Array Value) (elem : TypeId) (fr : Nat × Nat), v = .slice (some a) len cap ∧ len ≤ cap ∧ a.spot = none ∧ W.heap[a.block]? = some (.cells cs elem fr) ∧ (cap ≠ 0 → a.off + cap ≤ cs.size)) :
    ∃ β r, HRel C β h W ∧ VRel β r v ∧ (∀ l p, β l = some p → ∃ cs, h.get l = some (.tab cs)) ∧ (r = .nils ∨ ∃ l o n m, n ≤ m ∧ r = .slice l o n (some m) 1) := by
  have hbase : HRel C (rowsBe rs) h W := hrel_rows' hap (fun l o e => by
    rcases hget l o e with h1 | ⟨rfl, rfl⟩
    · exact .inl h1
    · exact .inr ⟨hne, hNlt, rfl⟩) hlt (hok _) hg
  rcases hv with rfl | ⟨a, len, cap, cs, elem, fr, rfl, hl, hs, hh, hc⟩
  · exact ⟨rowsBe rs, .nils, hbase, by simp [VRel], rowsBe_tabs hall, .inl rfl⟩
  · by_cases hex : ∃ r ∈ rs, r.p.b = a.block
    · obtain ⟨r, hr, hb⟩ := hex
      obtain ⟨pre, mid, post, el, f, e1, _, e3, _, _⟩ := hok (rowsBe rs) r hr
      have hsz : cs.size = r.p.n := by
        rw [hb, hh] at e1
        cases e1
        simpa using e3
      exact ⟨rowsBe rs, _, hbase, vrel_row (rowsBe_of hap hr) hb (ho r hr) hl hs (fun h0 => by rw [← hsz]; exact hc h0), rowsBe_tabs hall, .inr ⟨r.l, _, len, cap, hl, rfl⟩⟩
    · have hap' : Apart (⟨N, ⟨a.block, 0, cs.size⟩, []⟩ :: rs) := ⟨fun r hr => ⟨hne r hr, fun e => hex ⟨r, hr, e⟩⟩, hap⟩
      refine ⟨rowsBe (⟨N, ⟨a.block, 0, cs.size⟩, []⟩ :: rs), _, ?_, vrel_row (l := N) (p := ⟨a.block, 0, cs.size⟩) (by simp [rowsBe]) rfl rfl hl hs hc, rowsBe_tabs ?_, .inr ⟨N, _, len, cap, hl, rfl⟩⟩
      · refine hrel_rows' hap' (fun l o e => ?_) ?_ ?_ ?_
        · rcases hget l o e with ⟨r, hr, h1⟩ | ⟨rfl, rfl⟩
          · exact .inl ⟨r, by simp [hr], h1⟩
          · exact .inl ⟨_, List.mem_cons_self, rfl, rfl⟩
        · intro r hr
          rcases List.mem_cons.1 hr with rfl | hr
          · exact hNlt
          · exact hlt r hr
        · intro r hr
          rcases List.mem_cons.1 hr with rfl | hr
          · exact rowOk_nil hh
          · exact hok _ r hr
        · intro g hg'
          obtain ⟨r, hr, h1⟩ := hg g hg'
          exact ⟨r, by simp [hr], h1⟩
      · intro r hr
        rcases List.mem_cons.1 hr with rfl | hr
        · exact hN
        · exact hall r hr
theorem laid_mem {P : Program} {W : World} : ∀ {l : List (String × DataW Unit)} {ps : List MemPlace}, DataW.LaidVars P W l ps → ∀ {n : String} {d : DataW Unit}, (n, d) ∈ l →
    ∃ g t cs fuel p, P.globalNamed n = some g ∧ (P.globals[g]?).map (·.type) = some t ∧ W.var? P n = some cs ∧ DataW.trod (fun _ => ()) P W 0 (fun _ => true) false fuel t cs.toList = some (d, p)
  | [], _, _, _, _, hm => by cases hm
  | (m, e) :: r, _, h, n, d, hm => by
    obtain ⟨g, t, cs, fuel, p, q, h1, h2, h3, h4, h5, _⟩ := h
    rcases List.mem_cons.1 hm with e1 | hm
    · cases e1
      exact ⟨g, t, cs, fuel, p, h1, h2, h3, h4⟩
    · exact laid_mem h5 hm
/-- A TABLE OF BYTES THAT IS LAID. -/
theorem laid_bytes {P : Program} {W : World} {l : List (String × DataW Unit)} {ps : List MemPlace} (h : DataW.LaidVars P W l ps) {name : String} {d : DataW Unit} (hm : (name, d) ∈ l) {g n : Nat} {t e : TypeId} {L : List Nat}
    (hg : P.globalNamed name = some g) (ht : (P.globals[g]?).map (·.type) = some t) (ha : P.underlying t = some (.array n e)) (he : P.underlying e = some (.int .u8)) (hc : P.cellsOf e = 1) (hct : P.cellsOf t = n)
    (hd : d = .agg ((L.map Int.ofNat).map fun z => .lit (.int .u8 z))) : ∃ c elem fr, W.heap[g]? = some (.cells c elem fr) ∧ c.toList = L.map fun n => Value.int .u8 (.ofNat n) := by
  obtain ⟨g', t', cs, fuel, p, h1, h2, h3, h4⟩ := laid_mem h hm
  rw [hg] at h1
  cases h1
  rw [ht] at h2
  cases h2
  rw [hd] at h4
  obtain ⟨elem, fr, h5, h6⟩ := laid_ints hg h3 ha he hc hct h4
  exact ⟨cs, elem, fr, h5, by rw [h6, List.map_map]; rfl⟩
end Go.Ai
