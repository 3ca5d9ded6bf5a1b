/-
  THE ABSTRACT INTERPRETER, WHAT ITS HEAP STANDS FOR: the relation between the abstract heap and a world, and small laws of it.
-/
import Derived.Test.YtilmoifpikljhaaGreatDoorA1
import Derived.RangeFuncLeaves
import Derived.OrdersIn
import Derived.LoopNIn
import Derived.Laws.CopyRow
import Derived.Laws.NewBlocks
set_option linter.unusedVariables false
set_option linter.unusedSimpArgs false
namespace Go.Ai

/-! ### Lists -/
theorem nth_eq {α : Type} : ∀ (l : List α) (i : Nat), nth l i = l[i]?
  | [], _ => by simp [nth]
  | _ :: _, 0 => by simp [nth]
  | _ :: l, i + 1 => by simp [nth, nth_eq l i]
theorem takeN_eq {α : Type} : ∀ (l : List α) (n : Nat) (r : List α), takeN l n = some r → n ≤ l.length ∧ r = l.take n
  | _, 0, r, h => by simp [takeN] at h; simp [h]
  | [], n + 1, r, h => by simp [takeN] at h
  | a :: l, n + 1, r, h => by
    simp only [takeN] at h
    split at h
    · rename_i r' hr; cases h; obtain ⟨h1, rfl⟩ := takeN_eq l n r' hr; simp; omega
    · cases h
theorem sub_eq {α : Type} : ∀ (l : List α) (o n : Nat) (r : List α), sub l o n = some r → (o + n ≤ l.length ∨ n = 0) ∧ r = (l.drop o).take n
  | l, 0, n, r, h => by obtain ⟨h1, h2⟩ := takeN_eq l n r (by simpa [sub] using h); simp [h2]; omega
  | [], o + 1, n, r, h => by
    have := takeN_eq [] (n + 1) r (by simpa [sub] using h)
    simp at this
  | _ :: l, o + 1, n, r, h => by obtain ⟨h1, h2⟩ := sub_eq l o n r (by simpa [sub] using h); simp [h2]; omega
theorem over_eq {α : Type} : ∀ (l : List α) (o : Nat) (vs r : List α), over l o vs = some r → o + vs.length ≤ l.length ∧ r = l.take o ++ (vs ++ l.drop (o + vs.length))
  | l, 0, [], r, h => by simp [over] at h; simp [h]
  | [], 0, _ :: _, r, h => by simp [over] at h
  | a :: l, 0, v :: vs, r, h => by
    simp only [over] at h
    split at h
    · rename_i r' hr; cases h; obtain ⟨h1, rfl⟩ := over_eq l 0 vs r' hr; simp at h1 ⊢; omega
    · cases h
  | [], o + 1, vs, r, h => by cases vs <;> simp [over] at h
  | a :: l, o + 1, vs, r, h => by
    cases ho : over l o vs with
    | none => cases vs <;> simp [over, ho] at h
    | some r' =>
      have h' : a :: r' = r := by cases vs <;> simpa [over, ho] using h
      obtain ⟨h1, rfl⟩ := over_eq l o vs r' ho
      subst h'; simp [Nat.add_right_comm]; omega
theorem tget_lt : ∀ (l : List AV) (i : Nat), i < l.length → some (tget l i) = l[i]?
  | [], _, h => by simp at h
  | _ :: _, 0, _ => by simp [tget]
  | _ :: l, i + 1, h => by simp [tget]; exact tget_lt l i (by simpa using h)
theorem tget_ge : ∀ (l : List AV) (i : Nat), l.length ≤ i → tget l i = .bot
  | [], _, _ => by simp [tget]
  | _ :: _, 0, h => by simp at h
  | _ :: l, i + 1, h => by simp [tget]; exact tget_ge l i (by simpa using h)
theorem tset_length : ∀ (l : List AV) (i : Nat) (v : AV), (tset l i v).length = l.length
  | [], _, _ => rfl
  | _ :: _, 0, _ => by simp [tset]
  | _ :: l, i + 1, v => by simp [tset, tset_length l i v]
theorem tget_tset : ∀ (l : List AV) (i : Nat) (v : AV) (j : Nat), tget (tset l i v) j = if i = j ∧ i < l.length then v else tget l j
  | [], i, v, j => by simp [tset]
  | _ :: l, 0, v, 0 => by simp [tset, tget]
  | _ :: l, 0, v, j + 1 => by simp [tset, tget]
  | _ :: l, i + 1, v, 0 => by simp [tset, tget]
  | _ :: l, i + 1, v, j + 1 => by simp [tset, tget, tget_tset l i v j]
theorem bots_length : ∀ n, (bots n).length = n
  | 0 => rfl
  | n + 1 => by simp [bots, bots_length n]
theorem tget_bots : ∀ n i, tget (bots n) i = .bot
  | 0, _ => rfl
  | n + 1, 0 => rfl
  | n + 1, i + 1 => by simp [bots, tget, tget_bots n i]

/-! ### The heap -/
theorem nbeq_false {a b : Nat} (h : a ≠ b) : Nat.beq a b = false := by
  cases hb : Nat.beq a b
  · rfl
  · exact absurd (Nat.eq_of_beq_eq_true hb) h
theorem nbeq_self (a : Nat) : Nat.beq a a = true := Nat.beq_refl a
theorem Tr.get_e (k : Nat) : Tr.get .e k = none := by simp [Tr.get]
theorem half {k j : Nat} (hk : k ≠ 0) (hj : j ≠ 0) (h1 : (k % 2 == 1) = (j % 2 == 1)) : (k = j) ↔ if k % 2 = 1 then k / 2 = j / 2 else k / 2 - 1 = j / 2 - 1 := by
  have hp : k % 2 = j % 2 := by
    rcases Nat.mod_two_eq_zero_or_one k with h | h <;> rcases Nat.mod_two_eq_zero_or_one j with h' | h' <;> simp_all
  by_cases ho : k % 2 = 1
  · simp only [ho, if_true]; omega
  · simp only [ho, if_false]; omega
theorem Tr.get_setF : ∀ (f : Nat) (t : Tr) (k : Nat) (o : Option Obj) (j : Nat), k < f → (Tr.setF f t k o).get j = if k = j then o else t.get j := by
  intro f
  induction f with
  | zero => intro t k o j h; omega
  | succ f ih =>
    have key : ∀ (v : Option Obj) (l r : Tr) (k : Nat) (o : Option Obj) (j : Nat), k < f + 1 →
        Tr.get (bif Nat.beq k 0 then .n o l r else bif Nat.beq (Nat.mod k 2) 1 then .n v (Tr.setF f l (Nat.div k 2) o) r else .n v l (Tr.setF f r (Nat.pred (Nat.div k 2)) o)) j
          = if k = j then o else Tr.get (.n v l r) j := by
      intro v l r k o j hk
      by_cases k0 : k = 0
      · subst k0
        simp only [nbeq_self, cond_true, Tr.get]
        by_cases j0 : j = 0
        · subst j0; simp
        · have : Nat.beq j 0 = false := nbeq_false j0
          simp [this, Ne.symm j0]
      · have kb : Nat.beq k 0 = false := nbeq_false k0
        simp only [kb, cond_false]
        have hd : Nat.div k 2 = k / 2 := rfl
        have hm : Nat.mod k 2 = k % 2 := rfl
        by_cases j0 : j = 0
        · subst j0
          by_cases ko : k % 2 = 1
          · simp [hm, ko, Tr.get, k0]
          · have : Nat.beq (k % 2) 1 = false := nbeq_false ko
            simp [hm, this, Tr.get, k0]
        · have jb : Nat.beq j 0 = false := nbeq_false j0
          have hjd : Nat.div j 2 = j / 2 := rfl
          have hjm : Nat.mod j 2 = j % 2 := rfl
          by_cases ko : k % 2 = 1
          · simp only [hm, ko, nbeq_self, cond_true, Tr.get, jb, cond_false, hjm]
            by_cases jo : j % 2 = 1
            · simp only [jo, nbeq_self, cond_true, hjd, hd]
              rw [ih l (k / 2) o (j / 2) (by omega)]
              have := half k0 j0 (by simp [ko, jo])
              simp only [ko, if_true] at this
              simp [this]
            · have : Nat.beq (j % 2) 1 = false := nbeq_false jo
              simp only [this, cond_false]
              rw [if_neg (by intro e; subst e; exact jo ko)]
          · have kf : Nat.beq (k % 2) 1 = false := nbeq_false ko
            simp only [hm, kf, cond_false, Tr.get, jb, hjm]
            by_cases jo : j % 2 = 1
            · simp only [jo, nbeq_self, cond_true]
              rw [if_neg (by intro e; subst e; exact ko jo)]
            · have jf : Nat.beq (j % 2) 1 = false := nbeq_false jo
              simp only [jf, cond_false, hjd, hd]
              rw [ih r (Nat.pred (k / 2)) o (Nat.pred (j / 2)) (by simp; omega)]
              have := half k0 j0 (by
                have a : k % 2 = 0 := by omega
                have b : j % 2 = 0 := by omega
                simp [a, b])
              simp only [ko, if_false] at this
              simp only [Nat.pred_eq_sub_one]
              simp [this]
    intro t k o j h
    cases t with
    | n v l r => simp only [Tr.setF]; exact key v l r k o j h
    | e =>
      have := key none .e .e k o j h
      simp only [Tr.setF]
      rw [this]
      congr 1
      simp only [Tr.get]
      cases Nat.beq j 0 <;> cases Nat.beq (Nat.mod j 2) 1 <;> simp
theorem Heap.get_set (h : Heap) (l : Nat) (o : Obj) (j : Nat) : (h.set l o).get j = if l = j then some o else h.get j := Tr.get_setF _ _ _ _ _ (by simp)
theorem Heap.get_del (h : Heap) (l : Nat) (j : Nat) : (h.del l).get j = if l = j then none else h.get j := Tr.get_setF _ _ _ _ _ (by simp)
theorem Heap.get_push (h : Heap) (o : Obj) (j : Nat) : (h.push o).get j = if h.next = j then some o else h.get j := Tr.get_setF _ _ _ _ _ (by simp)
@[simp] theorem Heap.next_set (h : Heap) (l : Nat) (o : Obj) : (h.set l o).next = h.next := rfl
@[simp] theorem Heap.next_del (h : Heap) (l : Nat) : (h.del l).next = h.next := rfl
@[simp] theorem Heap.next_push (h : Heap) (o : Obj) : (h.push o).next = h.next + 1 := rfl

/-! ### What a value stands for -/
/-- A place: a block, where in it, and how many cells the block has. -/
structure Pl where
  b : Nat
  o : Nat
  n : Nat
abbrev Be := Nat → Option Pl
mutual
def VRel (β : Be) : AV → Value → Prop
  | .bot, _ => True
  | .bool b, v => v = .bool b
  | .int k n, v => v = .int k n
  | .str s, v => ∃ t : ByteArray, v = .string t ∧ t.data.toList.map UInt8.toNat = s
  | .nilp, v => v = .pointer none
  | .ptr l o, v => ∃ p, β l = some p ∧ v = .pointer (some ⟨p.b, p.o + o, none⟩)
  | .nils, v => v = .slice none 0 0
  | .slice l o n c z, v => ∃ p, β l = some p ∧ ∃ a m, v = .slice (some a) n m ∧ n ≤ m ∧ (∀ x, c = some x → m = x) ∧ a.block = p.b ∧ a.spot = none ∧ (m ≠ 0 → a.off = p.o + o) ∧ p.o + o + m * z ≤ p.n
  | .nilm, v => v = .map none
  | .map l, v => ∃ p, β l = some p ∧ v = .map (some p.b)
  | .nilf, v => v = .nilFunc
  | .func f a b, v => ∃ x y, v = .func (.func f) x y ∧ VRels β a x.toList ∧ VRels β b y.toList
  | .yield l, v => ∃ p, β l = some p ∧ v = .func (.yield p.b) #[] #[]
  | .nili, v => v = .nilIface
  | .agg cs, v => ∃ x, v = .agg x ∧ VRels β cs x.toList
  | .tup vs, v => ∃ x, v = .tuple x ∧ VRels β vs x.toList
  | .rng k a b, v => ∃ n, v = .int k n ∧ a ≤ n ∧ n ≤ b
  | .one, v => v.oneCell' = true ∧ v.cells = #[v]
def VRels (β : Be) : List AV → List Value → Prop
  | [], l => l = []
  | a :: as, l => ∃ v vs, l = v :: vs ∧ VRel β a v ∧ VRels β as vs
end
def Sub (β β' : Be) : Prop := ∀ l p, β l = some p → β' l = some p
theorem Sub.refl (β : Be) : Sub β β := fun _ _ h => h
theorem Sub.trans {β β' β'' : Be} (h : Sub β β') (h' : Sub β' β'') : Sub β β'' := fun l p e => h' l p (h l p e)
mutual
theorem VRel.mono {β β' : Be} (h : Sub β β') : ∀ {a : AV} {v : Value}, VRel β a v → VRel β' a v
  | .bot, _, _ => by simp [VRel]
  | .bool _, _, hv => by simpa [VRel] using hv
  | .int _ _, _, hv => by simpa [VRel] using hv
  | .str _, _, hv => by simpa [VRel] using hv
  | .nilp, _, hv => by simpa [VRel] using hv
  | .ptr _ _, _, hv => by simp only [VRel] at hv ⊢; obtain ⟨p, hp, e⟩ := hv; exact ⟨p, h _ _ hp, e⟩
  | .nils, _, hv => by simpa [VRel] using hv
  | .slice _ _ _ _ _, _, hv => by simp only [VRel] at hv ⊢; obtain ⟨p, hp, e⟩ := hv; exact ⟨p, h _ _ hp, e⟩
  | .nilm, _, hv => by simpa [VRel] using hv
  | .map _, _, hv => by simp only [VRel] at hv ⊢; obtain ⟨p, hp, e⟩ := hv; exact ⟨p, h _ _ hp, e⟩
  | .nilf, _, hv => by simpa [VRel] using hv
  | .func _ a b, _, hv => by simp only [VRel] at hv ⊢; obtain ⟨x, y, e, h1, h2⟩ := hv; exact ⟨x, y, e, VRels.mono h h1, VRels.mono h h2⟩
  | .yield _, _, hv => by simp only [VRel] at hv ⊢; obtain ⟨p, hp, e⟩ := hv; exact ⟨p, h _ _ hp, e⟩
  | .nili, _, hv => by simpa [VRel] using hv
  | .agg cs, _, hv => by simp only [VRel] at hv ⊢; obtain ⟨x, e, h1⟩ := hv; exact ⟨x, e, VRels.mono h h1⟩
  | .tup cs, _, hv => by simp only [VRel] at hv ⊢; obtain ⟨x, e, h1⟩ := hv; exact ⟨x, e, VRels.mono h h1⟩
  | .rng _ _ _, _, hv => by simpa only [VRel] using hv
  | .one, _, hv => by simpa only [VRel] using hv
theorem VRels.mono {β β' : Be} (h : Sub β β') : ∀ {as : List AV} {vs : List Value}, VRels β as vs → VRels β' as vs
  | [], _, hv => by simpa [VRels] using hv
  | a :: as, _, hv => by simp only [VRels] at hv ⊢; obtain ⟨v, vs, e, h1, h2⟩ := hv; exact ⟨v, vs, e, VRel.mono h h1, VRels.mono h h2⟩
end
section
variable {β : Be}
theorem VRels.nil : VRels β [] [] := by simp [VRels]
theorem VRels.cons {a : AV} {v : Value} {as : List AV} {vs : List Value} (h : VRel β a v) (h' : VRels β as vs) : VRels β (a :: as) (v :: vs) := by simp only [VRels]; exact ⟨v, vs, rfl, h, h'⟩
theorem VRels.length : ∀ {as : List AV} {vs : List Value}, VRels β as vs → as.length = vs.length
  | [], _, h => by simp [VRels] at h; simp [h]
  | a :: as, _, h => by simp only [VRels] at h; obtain ⟨v, vs, rfl, _, h'⟩ := h; simp [VRels.length h']
theorem VRels.get : ∀ {as : List AV} {vs : List Value} {i : Nat} {a : AV}, VRels β as vs → as[i]? = some a → ∃ v, vs[i]? = some v ∧ VRel β a v
  | [], _, _, _, _, e => by simp at e
  | a :: as, _, 0, _, h, e => by simp only [VRels] at h; obtain ⟨v, vs, rfl, h1, _⟩ := h; simp at e; subst e; exact ⟨v, by simp, h1⟩
  | a :: as, _, i + 1, _, h, e => by simp only [VRels] at h; obtain ⟨v, vs, rfl, _, h2⟩ := h; simp at e ⊢; exact VRels.get h2 e
theorem VRels.of_get : ∀ {as : List AV} {vs : List Value}, as.length = vs.length → (∀ (i : Nat) a v, as[i]? = some a → vs[i]? = some v → VRel β a v) → VRels β as vs
  | [], [], _, _ => VRels.nil
  | [], _ :: _, h, _ => by simp at h
  | _ :: _, [], h, _ => by simp at h
  | a :: as, v :: vs, h, h' => VRels.cons (h' 0 a v (by simp) (by simp)) (VRels.of_get (by simpa using h) fun i x y hx hy => h' (i + 1) x y (by simpa using hx) (by simpa using hy))
theorem VRels.append {as bs : List AV} {vs us : List Value} (h : VRels β as vs) (h' : VRels β bs us) : VRels β (as ++ bs) (vs ++ us) := by
  induction as generalizing vs with
  | nil => simp [VRels] at h; subst h; simpa using h'
  | cons a as ih => simp only [VRels] at h; obtain ⟨v, vs, rfl, h1, h2⟩ := h; exact VRels.cons h1 (ih h2)
theorem VRels.take {as : List AV} {vs : List Value} (n : Nat) (h : VRels β as vs) : VRels β (as.take n) (vs.take n) := by
  induction as generalizing vs n with
  | nil => simp [VRels] at h; subst h; simp [VRels.nil]
  | cons a as ih =>
    simp only [VRels] at h; obtain ⟨v, vs, rfl, h1, h2⟩ := h
    cases n with
    | zero => simp [VRels.nil]
    | succ n => simpa using VRels.cons h1 (ih n h2)
theorem VRels.drop {as : List AV} {vs : List Value} (n : Nat) (h : VRels β as vs) : VRels β (as.drop n) (vs.drop n) := by
  induction as generalizing vs n with
  | nil => simp [VRels] at h; subst h; simp [VRels.nil]
  | cons a as ih =>
    cases n with
    | zero => simpa using h
    | succ n => simp only [VRels] at h; obtain ⟨v, vs, rfl, h1, h2⟩ := h; simpa using ih n h2
theorem VRels.map {γ : Type} (f : γ → AV) (g : γ → Value) (h : ∀ x, VRel β (f x) (g x)) : ∀ l : List γ, VRels β (l.map f) (l.map g)
  | [] => VRels.nil
  | x :: l => VRels.cons (h x) (VRels.map f g h l)
theorem VRels.rep {z : List AV} {u : List Value} (h : VRels β z u) : ∀ n, VRels β (rep n z) (List.replicate n u).flatten
  | 0 => by simp [Ai.rep, VRels.nil]
  | n + 1 => by simp only [Ai.rep, List.replicate_succ, List.flatten_cons]; exact h.append (VRels.rep h n)
theorem VRel.undef : VRel β (.tup []) Go.undef := by simp [VRel, Go.undef, VRels.nil]
theorem ofFlat_rel (v : Value) : VRel β (ofFlat v) v := by
  unfold ofFlat
  split <;> simp [VRel]
theorem ofV_rel (v : Value) : VRel β (ofV v) v := by
  unfold ofV
  split
  · rename_i cs; simp only [VRel]; exact ⟨cs, rfl, by simpa using VRels.map ofFlat id ofFlat_rel cs.toList⟩
  · rename_i cs; simp only [VRel]; exact ⟨cs, rfl, by simpa using VRels.map ofFlat id ofFlat_rel cs.toList⟩
  · exact ofFlat_rel v
/-- What a cell may hold is no row and no tuple. -/
theorem cell1_rel {a : AV} {v : Value} (h : VRel β a v) (hc : cell1 a = true) : v.oneCell' = true ∧ v.cells = #[v] := by
  cases a <;> simp only [cell1, Bool.false_eq_true] at hc <;> simp only [VRel] at h <;>
    first
      | exact h
      | (subst h; simp [Value.oneCell', Value.cells])
      | (obtain ⟨_, rfl, _⟩ := h; simp [Value.oneCell', Value.cells])
      | (obtain ⟨_, _, rfl⟩ := h; simp [Value.oneCell', Value.cells])
      | (obtain ⟨_, _, rfl, _⟩ := h; simp [Value.oneCell', Value.cells])
      | (obtain ⟨_, _, _, _, rfl, _⟩ := h; simp [Value.oneCell', Value.cells])
theorem all1_get : ∀ {l : List AV} {i : Nat} {a : AV}, all1 l = true → l[i]? = some a → cell1 a = true
  | [], _, _, _, e => by simp at e
  | a :: l, 0, _, h, e => by
    simp at e; subst e
    simp only [all1] at h
    cases hc : cell1 a <;> simp [hc] at h ⊢
  | a :: l, i + 1, _, h, e => by
    simp only [all1] at h
    cases hc : cell1 a <;> simp [hc] at h
    exact all1_get h (by simpa using e)
theorem all1_of {l : List AV} (h : ∀ a ∈ l, cell1 a = true) : all1 l = true := by
  induction l with
  | nil => rfl
  | cons a l ih => simp only [all1, h a (by simp), cond_true]; exact ih fun x hx => h x (by simp [hx])
theorem all1_mem {l : List AV} (h : all1 l = true) : ∀ a ∈ l, cell1 a = true := fun a ha => by
  obtain ⟨i, hi⟩ := List.getElem?_of_mem ha
  exact all1_get h hi
theorem all1_rel {as : List AV} {vs : List Value} (h : VRels β as vs) (hc : all1 as = true) : ∀ v ∈ vs, v.oneCell' = true := by
  intro v hv
  obtain ⟨i, hi⟩ := List.getElem?_of_mem hv
  have hlt : i < as.length := by rw [h.length]; exact (List.getElem?_eq_some_iff.1 hi).1
  obtain ⟨u, hu, hr⟩ := h.get (List.getElem?_eq_getElem hlt)
  rw [hi] at hu; cases hu
  exact (cell1_rel hr (all1_get hc (List.getElem?_eq_getElem hlt))).1
end
end Go.Ai
/-
  THE ABSTRACT INTERPRETER, ITS HEAP AND A WORLD: the relation, and how it is kept by a new block, a store, an append.
-/
namespace Go.Ai

/-- A loop over an iterator: the function it stands in, its code, and which slots it holds. -/
structure Site where
  nt : Nat
  ps : Array Tmp
  asg : Code
  body : Code
  live : List Nat
structure Ctx where
  P : Program
  S : Nat → Option Site

def TRel (β : Be) (tm : List AV) (t : Array Value) : Prop := tm.length = t.size ∧ ∀ i, VRel β (tget tm i) (t.getD i undef)
def StRel : Nat → LoopState → Prop
  | 0, s => s = .ready
  | 1, s => s = .busy
  | 2, s => s = .done
  | _ + 3, s => s = .exhausted
def PRel : Ex → Option Code → Prop
  | .normal, c => c = none
  | .ret, c => c = some .ret
  | .exit i, c => c = some (.exit i)
  | .goto i, c => c = some (.goto i)
def MRel (β : Be) : List (AV × AV) → List MapEntry → Prop
  | [], l => l = []
  | (k, v) :: es, l => ∃ e r, l = e :: r ∧ isInt k = true ∧ VRel β k e.key ∧ VRel β v e.val ∧ good v = true ∧ MRel β es r
def ORel (C : Ctx) (β : Be) (o : Obj) (p : Pl) (H : Array Go.Obj) : Prop := match o with
  | .cells cs => ∃ pre mid post elem, H[p.b]? = some (.cells (pre ++ (mid ++ post)).toArray elem (0, 0)) ∧ pre.length = p.o ∧ (pre ++ (mid ++ post)).length = p.n ∧ VRels β cs mid ∧ all1 cs = true
  | .tab cs => ∃ pre mid post elem fr, H[p.b]? = some (.cells (pre ++ (mid ++ post)).toArray elem fr) ∧ pre.length = p.o ∧ (pre ++ (mid ++ post)).length = p.n ∧ VRels β cs mid ∧ all1 cs = true
  | .map es => ∃ ents clock, H[p.b]? = some (.map ents clock) ∧ MRel β es ents.toList
  | .loop id vs st pend => ∃ r s, H[p.b]? = some (.loop r) ∧ C.S id = some s ∧ r.params = s.ps ∧ r.assign = s.asg ∧ r.body = s.body ∧
      vs.length = s.live.length ∧ TRel β (unpack (bots s.nt) s.live vs) r.tmps ∧ StRel st r.state ∧ PRel pend r.pending
structure HRel (C : Ctx) (β : Be) (h : Heap) (w : World) : Prop where
  dom : ∀ l p, β l = some p → l < h.next
  lt : ∀ l p, β l = some p → p.b < w.heap.size
  inj : ∀ l l' p p' o o', β l = some p → β l' = some p' → h.get l = some o → h.get l' = some o' → p.b = p'.b → l = l'
  obj : ∀ l p o, β l = some p → h.get l = some o → ORel C β o p w.heap
  glob : ∀ g, kg C.P g = true → ∃ n, β g = some ⟨g, 0, n⟩
  fin : ∀ l, h.next ≤ l → h.get l = none
  rows : ∀ l cs, (h.get l = some (.cells cs) ∨ h.get l = some (.tab cs)) → all1 cs = true
/-- What has come behind what was: names and blocks are only added; blocks that no name stands for, and objects whose place is not known, are as they were. -/
structure Ext (β : Be) (h : Heap) (w : World) (β' : Be) (h' : Heap) (w' : World) : Prop where
  sub : Sub β β'
  new : ∀ l p, β' l = some p → β l = some p ∨ (h.next ≤ l ∧ (w.heap.size ≤ p.b ∨ ∃ l0 p0, β l0 = some p0 ∧ p0.b = p.b ∧ ∀ cs, h.get l0 ≠ some (.tab cs)))
  next : h.next ≤ h'.next
  size : w.heap.size ≤ w'.heap.size
  keep : ∀ b, b < w.heap.size → (∀ l p, β l = some p → p.b = b → ∃ cs, h.get l = some (.tab cs)) → w'.heap[b]? = w.heap[b]?
  tabs : ∀ l p cs, β l = some p → h.get l = some (.tab cs) → h'.get l = some (.tab cs)
  out : ∀ l, β l = none → l < h.next → h'.get l = h.get l
  os : w'.os = w.os
  tape : w'.tape = w.tape
  output : w'.output = w.output
  frz : ∀ a, a.block < w.heap.size → w'.frozen? a = w.frozen? a

section
variable {C : Ctx} {β β' β'' : Be} {h h' h'' : Heap} {w w' w'' : World}
theorem Ext.refl (β : Be) (h : Heap) (w : World) : Ext β h w β h w :=
  ⟨Sub.refl β, fun _ _ e => .inl e, Nat.le_refl _, Nat.le_refl _, fun _ _ _ => rfl, fun _ _ _ _ e => e, fun _ _ _ => rfl, rfl, rfl, rfl, fun _ _ => rfl⟩
theorem Ext.trans (a : Ext β h w β' h' w') (b : Ext β' h' w' β'' h'' w'') : Ext β h w β'' h'' w'' where
  sub := a.sub.trans b.sub
  new l p e := by
    rcases b.new l p e with e | ⟨hn, hb⟩
    · exact a.new l p e
    · refine .inr ⟨Nat.le_trans a.next hn, ?_⟩
      rcases hb with hb | ⟨l0, p0, e0, hb, hnt⟩
      · exact .inl (Nat.le_trans a.size hb)
      · rcases a.new l0 p0 e0 with e1 | ⟨_, h1⟩
        · exact .inr ⟨l0, p0, e1, hb, fun cs hc => hnt cs (a.tabs l0 p0 cs e1 hc)⟩
        · rw [hb] at h1; exact h1
  next := Nat.le_trans a.next b.next
  size := Nat.le_trans a.size b.size
  keep k hk hn := by
    rw [b.keep k (Nat.lt_of_lt_of_le hk a.size) ?_, a.keep k hk hn]
    intro l p e hp
    rcases a.new l p e with e | ⟨_, h1⟩
    · obtain ⟨cs, hc⟩ := hn l p e hp
      exact ⟨cs, a.tabs l p cs e hc⟩
    · rcases h1 with h1 | ⟨l0, p0, e0, h1, hnt⟩
      · omega
      · obtain ⟨cs, hc⟩ := hn l0 p0 e0 (h1.trans hp)
        exact absurd hc (hnt cs)
  tabs l p cs e hc := b.tabs l p cs (a.sub l p e) (a.tabs l p cs e hc)
  out l e hl := by
    rw [b.out l ?_ (Nat.lt_of_lt_of_le hl a.next), a.out l e hl]
    cases e' : β' l with
    | none => rfl
    | some p =>
      rcases a.new l p e' with h1 | ⟨h1, _⟩
      · rw [e] at h1; cases h1
      · omega
  os := b.os.trans a.os
  tape := b.tape.trans a.tape
  output := b.output.trans a.output
  frz c hc := (b.frz c (Nat.lt_of_lt_of_le hc a.size)).trans (a.frz c hc)
theorem TRel.mono (h : Sub β β') {tm : List AV} {t : Array Value} (r : TRel β tm t) : TRel β' tm t := ⟨r.1, fun i => (r.2 i).mono h⟩
theorem MRel.mono (h : Sub β β') : ∀ {es : List (AV × AV)} {l : List MapEntry}, MRel β es l → MRel β' es l
  | [], _, r => by simpa [MRel] using r
  | (k, v) :: es, _, r => by simp only [MRel] at r ⊢; obtain ⟨e, q, e1, e2, e3, e4, e5, e6⟩ := r; exact ⟨e, q, e1, e2, e3.mono h, e4.mono h, e5, MRel.mono h e6⟩
theorem ORel.mono (h : Sub β β') {o : Obj} {p : Pl} {H H' : Array Go.Obj} (hH : H'[p.b]? = H[p.b]?) (r : ORel C β o p H) : ORel C β' o p H' := by
  cases o with
  | cells cs => obtain ⟨a, b, c, d, e1, e2, e3, e4, e5⟩ := r; exact ⟨a, b, c, d, hH.trans e1, e2, e3, e4.mono h, e5⟩
  | tab cs => obtain ⟨a, b, c, d, f, e1, e2, e3, e4, e5⟩ := r; exact ⟨a, b, c, d, f, hH.trans e1, e2, e3, e4.mono h, e5⟩
  | map es => obtain ⟨a, b, e1, e2⟩ := r; exact ⟨a, b, hH.trans e1, e2.mono h⟩
  | loop id vs st pend => obtain ⟨a, b, e1, e2, e4, e5, e6, e7, e8, e9, e10⟩ := r; exact ⟨a, b, hH.trans e1, e2, e4, e5, e6, e7, e8.mono h, e9, e10⟩
/-- only the heap of a world counts -/
theorem HRel.world (r : HRel C β h w) (e : w'.heap = w.heap) : HRel C β h w' :=
  ⟨r.dom, fun l p h => by rw [e]; exact r.lt l p h, r.inj, fun l p o h h' => by rw [e]; exact r.obj l p o h h', r.glob, r.fin, r.rows⟩
theorem Ext.world (e : w'.heap = w.heap) (os : w'.os = w.os) (t : w'.tape = w.tape) (o : w'.output = w.output) : Ext β h w β h w' :=
  ⟨Sub.refl β, fun _ _ e => .inl e, Nat.le_refl _, by rw [e]; exact Nat.le_refl _, fun _ _ _ => by rw [e], fun _ _ _ _ e => e, fun _ _ _ => rfl, os, t, o, fun a _ => by unfold World.frozen?; rw [e]⟩
theorem ORel.rows {o : Obj} {p : Pl} {H : Array Go.Obj} (r : ORel C β o p H) {cs : List AV} (e : o = .cells cs ∨ o = .tab cs) : all1 cs = true := by
  rcases e with rfl | rfl
  · obtain ⟨_, _, _, _, _, _, _, _, h⟩ := r; exact h
  · obtain ⟨_, _, _, _, _, _, _, _, _, h⟩ := r; exact h
/-- is a place of an object a string's? -/
def fz (o : Option Go.Obj) (off : Nat) : Bool := match o with
  | some (.cells _ _ (lo, hi)) => lo ≤ off && off < hi
  | _ => false
theorem fz_zero (c : Array Value) (t : TypeId) (off : Nat) : fz (some (.cells c t (0, 0))) off = false := by simp [fz]
theorem frozen_fz (w : World) (a : Addr) : w.frozen? a = fz w.heap[a.block]? a.off := rfl
theorem ORel.fz {o : Obj} {p : Pl} {H : Array Go.Obj} (r : ORel C β o p H) (hnt : ∀ cs, o ≠ .tab cs) (off : Nat) : Ai.fz H[p.b]? off = false := by
  cases o with
  | cells cs => obtain ⟨_, _, _, _, e1, _⟩ := r; rw [e1]; exact fz_zero _ _ _
  | tab cs => exact absurd rfl (hnt cs)
  | map es => obtain ⟨_, _, e1, _⟩ := r; rw [e1]; rfl
  | loop id vs st pend => obtain ⟨_, _, e1, _⟩ := r; rw [e1]; rfl

theorem World.alloc_heap_old (w : World) (o : Go.Obj) {b : Nat} (hb : b < w.heap.size) : (w.alloc o).heap[b]? = w.heap[b]? := by
  show (w.heap.push o)[b]? = _
  rw [Array.getElem?_push, if_neg (by omega)]
theorem alloc_frz (w : World) (o : Go.Obj) (hx : ∀ off, fz (some o) off = false) (a : Addr) : (w.alloc o).frozen? a = w.frozen? a := by
  rw [frozen_fz, frozen_fz]
  show fz (w.heap.push o)[a.block]? a.off = _
  rw [Array.getElem?_push]
  split
  · rename_i h
    rw [hx, h]
    simp [fz]
  · rfl
/-- a name more -/
def Be.put (β : Be) (l : Nat) (p : Pl) : Be := fun j => if j = l then some p else β j
theorem Be.sub_put (r : HRel C β h w) (p : Pl) : Sub β (β.put h.next p) := fun l q e => by
  unfold Be.put
  rw [if_neg (by have := r.dom l q e; omega)]; exact e
/-- a block that no name stands for -/
theorem HRel.garbage (r : HRel C β h w) (x : Go.Obj) (hx : ∀ off, fz (some x) off = false := by intro; rfl) : HRel C β h (w.alloc x) ∧ Ext β h w β h (w.alloc x) := by
  refine ⟨⟨r.dom, fun l p e => by have := r.lt l p e; simp; omega, r.inj, fun l p o e g => (r.obj l p o e g).mono (Sub.refl β) (World.alloc_heap_old _ _ (r.lt l p e)), r.glob, r.fin, r.rows⟩,
    ⟨Sub.refl β, fun _ _ e => .inl e, Nat.le_refl _, by simp, fun b hb _ => World.alloc_heap_old _ _ hb, fun _ _ _ _ e => e, fun _ _ _ => rfl, rfl, rfl, rfl, fun a _ => alloc_frz w x hx a⟩⟩
/-- A NEW BLOCK. -/
theorem HRel.alloc (r : HRel C β h w) (o : Obj) (x : Go.Obj) (n : Nat) (ho : ORel C (β.put h.next ⟨w.heap.size, 0, n⟩) o ⟨w.heap.size, 0, n⟩ (w.heap.push x)) (hx : ∀ off, fz (some x) off = false := by first | (intro; rfl) | exact fz_zero _ _) :
    HRel C (β.put h.next ⟨w.heap.size, 0, n⟩) (h.push o) (w.alloc x) ∧ Ext β h w (β.put h.next ⟨w.heap.size, 0, n⟩) (h.push o) (w.alloc x) := by
  have hs := Be.sub_put r ⟨w.heap.size, 0, n⟩
  refine ⟨⟨?_, ?_, ?_, ?_, fun g hg => let ⟨m, hm⟩ := r.glob g hg; ⟨m, hs _ _ hm⟩, fun l hl => by rw [Heap.get_push, if_neg (by simp at hl; omega)]; exact r.fin l (by simp at hl; omega), fun l cs hl => by
    rw [Heap.get_push] at hl
    by_cases hn : h.next = l
    · rw [if_pos hn] at hl; exact ho.rows (by simpa using hl)
    · rw [if_neg hn] at hl; exact r.rows l cs hl⟩, ⟨hs, ?_, by simp, by simp, ?_, fun l p cs e hc => ?_, ?_, rfl, rfl, rfl, fun a _ => alloc_frz w x hx a⟩⟩
  · intro l p e
    unfold Be.put at e
    by_cases hl : l = h.next
    · subst hl; simp
    · rw [if_neg hl] at e; have := r.dom l p e; simp; omega
  · intro l p e
    unfold Be.put at e
    by_cases hl : l = h.next
    · rw [if_pos hl] at e; cases e; simp
    · rw [if_neg hl] at e; have := r.lt l p e; simp; omega
  · intro l l' p p' q q' e e' g g' hb
    unfold Be.put at e e'
    rw [Heap.get_push] at g g'
    by_cases hl : l = h.next <;> by_cases hl' : l' = h.next
    · rw [hl, hl']
    · rw [if_pos hl] at e; rw [if_neg hl'] at e'; cases e
      have := r.lt l' p' e'; simp at hb; omega
    · rw [if_neg hl] at e; rw [if_pos hl'] at e'; cases e'
      have := r.lt l p e; simp at hb; omega
    · rw [if_neg hl] at e; rw [if_neg hl'] at e'
      rw [if_neg (Ne.symm hl)] at g; rw [if_neg (Ne.symm hl')] at g'
      exact r.inj l l' p p' q q' e e' g g' hb
  · intro l p q e g
    rw [Heap.get_push] at g
    by_cases hl : l = h.next
    · unfold Be.put at e
      rw [if_pos hl] at e; cases e
      rw [if_pos hl.symm] at g; cases g
      exact ho
    · unfold Be.put at e
      rw [if_neg hl] at e
      rw [if_neg (Ne.symm hl)] at g
      have hlt := r.lt l p e
      exact (r.obj l p q e g).mono hs (World.alloc_heap_old _ _ hlt)
  · intro l p e
    unfold Be.put at e
    by_cases hl : l = h.next
    · rw [if_pos hl] at e; cases e; exact .inr ⟨by omega, .inl (Nat.le_refl _)⟩
    · rw [if_neg hl] at e; exact .inl e
  · intro b hb _
    exact World.alloc_heap_old _ _ hb
  · rw [Heap.get_push, if_neg (by have := r.dom l p e; omega)]; exact hc
  · intro l _ hl
    rw [Heap.get_push, if_neg (by omega)]
theorem Be.put_self (β : Be) (l : Nat) (p : Pl) : β.put l p l = some p := by simp [Be.put]
theorem put_frz {β' : Be} {o o' : Obj} {p q : Pl} {H : Array Go.Obj} (r : ORel C β o p w.heap) (r' : ORel C β' o' q H) (hnt : ∀ cs, o ≠ .tab cs) (hnt' : ∀ cs, o' ≠ .tab cs) (hk : ∀ b, b ≠ p.b → H[b]? = w.heap[b]?) (hq : q.b = p.b := by rfl) (a : Addr) :
    ({ w with heap := H } : World).frozen? a = w.frozen? a := by
  rw [frozen_fz, frozen_fz]
  show fz H[a.block]? a.off = _
  by_cases hb : a.block = p.b
  · rw [hb, r.fz hnt, ← hq, r'.fz hnt']
  · rw [hk _ hb]
/-- ANOTHER OBJECT AT A NAME's PLACE. -/
theorem HRel.put (r : HRel C β h w) {l : Nat} {p : Pl} {o o' : Obj} (e : β l = some p) (g : h.get l = some o) (hnt : ∀ cs, o ≠ .tab cs) {H : Array Go.Obj} (hsz : H.size = w.heap.size)
    (hk : ∀ b, b ≠ p.b → H[b]? = w.heap[b]?) (ho : ORel C β o' p H) (hnt' : ∀ cs, o' ≠ .tab cs := by simp) : HRel C β (h.set l o') { w with heap := H } ∧ Ext β h w β (h.set l o') { w with heap := H } := by
  refine ⟨⟨fun j q ej => by simpa using r.dom j q ej, fun j q ej => by simpa [hsz] using r.lt j q ej, ?_, ?_, r.glob, fun j hj => by rw [Heap.get_set, if_neg (by have := r.dom l p e; simp at hj; omega)]; exact r.fin j (by simpa using hj), fun j cs hj => by
    rw [Heap.get_set] at hj
    by_cases hn : l = j
    · rw [if_pos hn] at hj; exact ho.rows (by simpa using hj)
    · rw [if_neg hn] at hj; exact r.rows j cs hj⟩, ⟨Sub.refl β, fun _ _ e => .inl e, by simp, by simp [hsz], ?_, fun j q cs ej hc => ?_, ?_, rfl, rfl, rfl, fun a _ => put_frz (r.obj l p o e g) ho hnt hnt' hk rfl a⟩⟩
  · intro j j' q q' x x' ej ej' gj gj' hb
    rw [Heap.get_set] at gj gj'
    refine r.inj j j' q q' (if l = j then o else x) (if l = j' then o else x') ej ej' ?_ ?_ hb
    · by_cases hl : l = j
      · subst hl; simp [g]
      · simpa [hl] using gj
    · by_cases hl : l = j'
      · subst hl; simp [g]
      · simpa [hl] using gj'
  · intro j q x ej gj
    rw [Heap.get_set] at gj
    by_cases hl : l = j
    · subst hl
      rw [e] at ej; cases ej
      simp at gj; subst gj
      exact ho
    · rw [if_neg hl] at gj
      exact (r.obj j q x ej gj).mono (Sub.refl β) (hk q.b (fun hb => hl ((r.inj l j p q o x e ej g gj hb.symm))))
  · intro b _ hn
    refine hk b (fun hb => ?_)
    obtain ⟨cs, hc⟩ := hn l p e hb.symm
    rw [g] at hc; cases hc; exact hnt cs rfl
  · rw [Heap.get_set, if_neg (by intro hl; subst hl; rw [g] at hc; cases hc; exact hnt cs rfl)]; exact hc
  · intro j ej _
    rw [Heap.get_set, if_neg (by intro hl; subst hl; rw [e] at ej; cases ej)]
/-- A ROW THAT IS WRITTEN OVER: the name is gone; the new name's row lies at the old one's place, from k cells on (k: 0 where the row is new). -/
theorem HRel.moved (r : HRel C β h w) {l : Nat} {p : Pl} {o o' : Obj} (e : β l = some p) (g : h.get l = some o) (hnt : ∀ cs, o ≠ .tab cs) {q : Pl} (hq : q.b = p.b) {H : Array Go.Obj} (hsz : H.size = w.heap.size)
    (hk : ∀ b, b ≠ p.b → H[b]? = w.heap[b]?) (ho : ORel C (β.put h.next q) o' q H) (hnt' : ∀ cs, o' ≠ .tab cs := by simp) :
    HRel C (β.put h.next q) ((h.del l).push o') { w with heap := H } ∧ Ext β h w (β.put h.next q) ((h.del l).push o') { w with heap := H } := by
  have hs := Be.sub_put r q
  have hln : l < h.next := r.dom l p e
  have hget : ∀ j, ((h.del l).push o').get j = if h.next = j then some o' else if l = j then none else h.get j := fun j => by rw [Heap.get_push, Heap.get_del]; rfl
  refine ⟨⟨?_, ?_, ?_, ?_, fun g hg => let ⟨m, hm⟩ := r.glob g hg; ⟨m, hs _ _ hm⟩, fun j hj => by simp at hj; rw [hget, if_neg (by omega), if_neg (by omega)]; exact r.fin j (by omega), fun j cs hj => by
    rw [hget] at hj
    by_cases hn : h.next = j
    · rw [if_pos hn] at hj; exact ho.rows (by simpa using hj)
    · rw [if_neg hn] at hj
      by_cases hl : l = j
      · simp [hl] at hj
      · rw [if_neg hl] at hj; exact r.rows j cs hj⟩, ⟨hs, ?_, by simp, by simp [hsz], ?_, fun j x cs ej hc => ?_, ?_, rfl, rfl, rfl, fun a _ => put_frz (r.obj l p o e g) ho hnt hnt' hk hq a⟩⟩
  · intro j x ej
    unfold Be.put at ej
    by_cases hj : j = h.next
    · subst hj; simp
    · rw [if_neg hj] at ej; have := r.dom j x ej; simp; omega
  · intro j x ej
    unfold Be.put at ej
    by_cases hj : j = h.next
    · rw [if_pos hj] at ej; cases ej; simp [hsz, hq]; exact r.lt l p e
    · rw [if_neg hj] at ej; have := r.lt j x ej; simpa [hsz] using this
  · intro j j' x x' y y' ej ej' gj gj' hb
    unfold Be.put at ej ej'
    rw [hget] at gj gj'
    have none_of : ∀ i (z : Pl) (y : Obj), i ≠ h.next → β i = some z → (if h.next = i then some o' else if l = i then none else h.get i) = some y → z.b ≠ p.b := by
      intro i z y hi ei gi hz
      rw [if_neg (Ne.symm hi)] at gi
      by_cases hli : l = i
      · simp [hli] at gi
      · rw [if_neg hli] at gi
        exact hli (r.inj l i p z o y e ei g gi hz.symm)
    by_cases hj : j = h.next <;> by_cases hj' : j' = h.next
    · rw [hj, hj']
    · rw [if_pos hj] at ej; rw [if_neg hj'] at ej'; cases ej
      exact absurd (hb.symm.trans hq) (none_of j' x' y' hj' ej' gj')
    · rw [if_neg hj] at ej; rw [if_pos hj'] at ej'; cases ej'
      exact absurd (hb.trans hq) (none_of j x y hj ej gj)
    · rw [if_neg hj] at ej; rw [if_neg hj'] at ej'
      rw [if_neg (Ne.symm hj)] at gj; rw [if_neg (Ne.symm hj')] at gj'
      by_cases hl : l = j
      · simp [hl] at gj
      · by_cases hl' : l = j'
        · simp [hl'] at gj'
        · rw [if_neg hl] at gj; rw [if_neg hl'] at gj'
          exact r.inj j j' x x' y y' ej ej' gj gj' hb
  · intro j x y ej gj
    rw [hget] at gj
    unfold Be.put at ej
    by_cases hj : j = h.next
    · rw [if_pos hj] at ej; cases ej
      rw [if_pos hj.symm] at gj; cases gj
      exact ho
    · rw [if_neg hj] at ej
      rw [if_neg (Ne.symm hj)] at gj
      by_cases hl : l = j
      · simp [hl] at gj
      · rw [if_neg hl] at gj
        exact (r.obj j x y ej gj).mono hs (hk x.b (fun hb => hl (r.inj l j p x o y e ej g gj hb.symm)))
  · intro j x ej
    unfold Be.put at ej
    by_cases hj : j = h.next
    · rw [if_pos hj] at ej; cases ej; exact .inr ⟨by omega, .inr ⟨l, p, e, hq.symm, fun cs hc => by rw [g] at hc; cases hc; exact hnt cs rfl⟩⟩
    · rw [if_neg hj] at ej; exact .inl ej
  · intro b _ hn
    refine hk b (fun hb => ?_)
    obtain ⟨cs, hc⟩ := hn l p e hb.symm
    rw [g] at hc; cases hc; exact hnt cs rfl
  · rw [hget, if_neg (by have := r.dom j x ej; omega), if_neg (by intro hl; subst hl; rw [g] at hc; cases hc; exact hnt cs rfl)]; exact hc
  · intro j ej hj
    rw [hget, if_neg (by omega), if_neg (by intro hl; subst hl; rw [e] at ej; cases ej)]
/-- A ROW THAT IS GONE, and a new one in a new block. -/
theorem HRel.gone (r : HRel C β h w) {l : Nat} {p : Pl} (e : β l = some p) (hnt : ∀ cs, h.get l ≠ some (.tab cs)) : HRel C β (h.del l) w ∧ Ext β h w β (h.del l) w := by
  have hget := Heap.get_del h l
  refine ⟨⟨r.dom, r.lt, ?_, ?_, r.glob, fun j hj => by have hj : h.next ≤ j := hj; rw [hget, if_neg (by have := r.dom l p e; omega)]; exact r.fin j hj, fun j cs hj => by
    rw [hget] at hj
    by_cases hl : l = j
    · simp [hl] at hj
    · rw [if_neg hl] at hj; exact r.rows j cs hj⟩, ⟨Sub.refl β, fun _ _ e => .inl e, by simp, Nat.le_refl _, fun _ _ _ => rfl, fun j x cs ej hc => ?_, ?_, rfl, rfl, rfl, fun _ _ => rfl⟩⟩
  · intro j j' x x' y y' ej ej' gj gj' hb
    rw [hget] at gj gj'
    by_cases hl : l = j
    · simp [hl] at gj
    · by_cases hl' : l = j'
      · simp [hl'] at gj'
      · rw [if_neg hl] at gj; rw [if_neg hl'] at gj'
        exact r.inj j j' x x' y y' ej ej' gj gj' hb
  · intro j x y ej gj
    rw [hget] at gj
    by_cases hl : l = j
    · simp [hl] at gj
    · rw [if_neg hl] at gj; exact r.obj j x y ej gj
  · rw [hget, if_neg (by intro hl; subst hl; exact hnt cs hc)]; exact hc
  · intro j ej _
    rw [hget, if_neg (by intro hl; subst hl; rw [e] at ej; cases ej)]
end
end Go.Ai
