import Derived.Test.YtjgngikiglhleaaGreatDoorSx2
namespace Go.Proofs.YtjgngikiglhleaaGreatDoor
open Go.RowKit
theorem list_len {F : Nat → Nat → Value → Prop} {es : List (List D)} {v : Value} (h : relD F (.list es) v) : ∃ A c,v = .slice A es.length c := by
 cases h with
 | nil A c=>exact ⟨A,c,rfl⟩
 | list _ b off c sz u hne hcap hsz hF hr=>exact ⟨_,c,rfl⟩
theorem getElem_lt {α : Type} {l : List α} {i : Nat} {x : α} (h : l[i]? = some x) : i < l.length := by
 rcases Nat.lt_or_ge i l.length with q | q
 ·exact q
 ·rw [List.getElem?_eq_none q] at h; cases h
theorem indexAddr_list {P : Program} {G : Cx} {t e : TypeId} {sz : Nat} {es : List (List D)} {n : Int} {k : IntKind} {c : List D} {v : Value} (hv : relD G.F (.list es) v) (hu : P.underlying t = some (.slice e)) (hs : sizeT P e = some sz) (hn : ¬ n < 0) (hc : es[n.toNat]? = some c) (hl : c.length = sz) (w : World) :
  ∃ u,(Instr.indexAt t v (.int k n)).run P w = .ok u w ∧ rel G (.iptr c 0) u := by
 cases hv with
 | nil A c'=>simp at hc
 | list _ b off c' sz' u hne hcap hsz hF hr =>
  have hlt := getElem_lt hc
  have e1 := hsz _ _ hc
  have e2 : sz' = sz := by omega
  subst e2
  refine ⟨.pointer (some ⟨b,off + n.toNat * sz' + 0,none⟩),?_,.iptr c 0 b (off + n.toNat * sz') (fun j=>u n.toNat j) (fun j x hx=>hF _ j c x hc hx) (fun j x hx=>hr _ j c x hc hx)⟩
  have h1 : (0 : Int) ≤ n := by omega
  have h2 : n < (es.length : Int) := by omega
  simp [Instr.indexAt,asIntOf,run_underlying hu,h1,h2,run_size hs,Addr.add_lit]
theorem indexAddrV_ok {P : Program} {G : Cx} {t : TypeId} {x i y : V} {v vi : Value} (r : rel G x v) (ri : rel G i vi) (h : indexAddrV P t x i = some y) (w : World) : ∃ u,(Instr.indexAt t v vi).run P w = .ok u w ∧ rel G y u := by
 unfold indexAddrV at h
 split at h
 ·rename_i k n
  split at h
  ·cases h
  ·rename_i hn
   have hvi : vi = .int k n := by cases ri with | d q=>cases q; rfl
   subst hvi
   have hn0 : (0 : Int) ≤ n := by omega
   split at h
   ·rename_i e hu
    cases hs : sizeT P e with
    | none=>rw [hs] at h; cases h
    | some sz =>
     rw [hs] at h
     simp only at h
     split at h
     ·rename_i k' off len cap
      split at h
      ·rename_i hlt
       injection h with h; subst h
       cases r with
       | sl _ _ _ _ b q =>
        have h2 : n < (len : Int) := by omega
        exact ⟨_,by simp [Instr.indexAt,asIntOf,run_underlying hu,hn0,h2,run_size hs,Addr.add_lit],.ptr _ _ b q⟩
      ·cases h
     ·split at h
      ·rename_i es hes
       split at h
       ·rename_i c hc
        split at h
        ·rename_i hl
         injection h with h; subst h
         exact indexAddr_list (list_rel r hes) hu hs hn hc hl w
        ·cases h
       ·cases h
      ·cases h
   ·rename_i len e hu
    cases hs : sizeT P e with
    | none=>rw [hs] at h; cases h
    | some sz =>
     rw [hs] at h
     simp only at h
     split at h
     ·rename_i hlt
      have h2 : n < (len : Int) := by omega
      cases r with
      | ptr k' off b q =>
       simp only at h; injection h with h; subst h
       exact ⟨_,by simp [Instr.indexAt,asIntOf,run_underlying hu,Instr.sureAddr,hn0,h2,run_size hs,Addr.add_lit],.ptr _ _ b q⟩
      | iptr cs off b o u hF hr =>
       simp only at h; injection h with h; subst h
       exact ⟨.pointer (some ⟨b,o + (off + n.toNat * sz),none⟩),by simp [Instr.indexAt,asIntOf,run_underlying hu,Instr.sureAddr,hn0,h2,run_size hs,Addr.add_lit,Nat.add_assoc],.iptr cs (off + n.toNat * sz) b o u hF hr⟩
      | d q =>
       cases q with
       | other v h1 =>
        have hg : globA (.d (.other v)) (n.toNat * sz) = some y := h
        unfold globA at hg
        split at hg
        ·rename_i b off he
         injection he with he; injection he with he; subst he
         injection hg with hg; subst hg
         exact ⟨_,by simp [Instr.indexAt,asIntOf,run_underlying hu,Instr.sureAddr,hn0,h2,run_size hs,Addr.add_lit],.d (.other _ rfl)⟩
        ·cases hg
       | _=>simp [globA] at h
      | _=>simp [globA] at h
     ·cases h
   ·cases h
 ·cases h
def indexV (P : Program) (t : TypeId) (x i : V) : Option V :=
 match i with
 | .d (.int _ n) =>
  if n < 0 then none else
  match x with
  | .agg cs=>match P.underlying t with
   | some (.array len e)=>match sizeT P e with
    | some sz=>if n.toNat < len then partV P e cs (n.toNat * sz) else none
    | none=>none
   | _=>none
  | .d (.str s)=>match P.underlying t with
   | some .string=>match s[n.toNat]? with
    | some b=>some (.d (.int .u8 b.toNat))
    | none=>none
   | _=>none
  | _=>none
 | _=>none
theorem indexV_ok {P : Program} {G : Cx} {t : TypeId} {x i y : V} {v vi : Value} (r : rel G x v) (ri : rel G i vi) (h : indexV P t x i = some y) (w : World) : ∃ u,(Instr.index t v vi).run P w = .ok u w ∧ rel G y u := by
 unfold indexV at h
 split at h
 ·rename_i k n
  split at h
  ·cases h
  ·rename_i hn
   have hvi : vi = .int k n := by cases ri with | d q=>cases q; rfl
   subst hvi
   have hn0 : (0 : Int) ≤ n := by omega
   split at h
   ·rename_i cs
    split at h
    ·rename_i len e hu
     cases hs : sizeT P e with
     | none=>rw [hs] at h; cases h
     | some sz =>
      rw [hs] at h
      simp only at h
      split at h
      ·rename_i hlt
       have h2 : n < (len : Int) := by omega
       cases r with
       | agg _ vs hl hr =>
        obtain ⟨u,q1,q2⟩ := partV_ok h ⟨hl,hr⟩ w
        exact ⟨u,by simp [Instr.index,asIntOf,run_underlying hu,hn0,h2,run_size hs,q1],q2⟩
      ·cases h
    ·cases h
   ·rename_i s
    split at h
    ·rename_i hu
     split at h
     ·rename_i b hb
      injection h with h; subst h
      cases r with
      | d q =>
       cases q
       have hb' : (⟨s.toArray⟩ : ByteArray)[n.toNat]? = some b := by
        have hlt := getElem_lt hb
        have : n.toNat < (⟨s.toArray⟩ : ByteArray).size := by simpa [ByteArray.size] using hlt
        rw [getElem?_pos (⟨s.toArray⟩ : ByteArray) n.toNat this]
        rw [List.getElem?_eq_getElem hlt] at hb
        injection hb with hb
        rw [← hb]
        rfl
       exact ⟨_,by simp [Instr.index,asIntOf,run_underlying hu,hn0,hb'],.d (.int _ _)⟩
     ·cases h
    ·cases h
   ·cases h
 ·cases h
def lenV (P : Program) (t : TypeId) (x : V) : Option V :=
 match P.underlying t with
 | some .string=>match x with | .d (.str s)=>some (.d (.int .i64 s.length)) | _=>none
 | some (.slice _)=>match x with
  | .sl _ _ len _=>some (.d (.int .i64 len))
  | _=>match x.list? with | some es=>some (.d (.int .i64 es.length)) | none=>none
 | some (.array n _)=>some (.d (.int .i64 n))
 | _=>none
theorem lenV_ok {P : Program} {G : Cx} {t ty : TypeId} {x y : V} {v : Value} (r : rel G x v) (h : lenV P t x = some y) (w : World) : ∃ u,(Builtin.len_ #[t] ty #[v]).run P w = .ok u w ∧ rel G y u := by
 unfold lenV at h
 split at h
 ·rename_i hu
  split at h
  ·rename_i s
   injection h with h; subst h
   cases r with
   | d q =>
    cases q
    have hz : (⟨s.toArray⟩ : ByteArray).size = s.length := rfl
    exact ⟨_,by simp [Builtin.len_,run_underlying hu,goInt,hz],.d (.int _ _)⟩
  ·cases h
 ·rename_i e hu
  split at h
  ·injection h with h; subst h
   cases r with
   | sl _ _ _ _ b q=>exact ⟨_,by simp [Builtin.len_,run_underlying hu,goInt],.d (.int _ _)⟩
  ·split at h
   ·rename_i es hes
    injection h with h; subst h
    obtain ⟨A,c,rfl⟩ := list_len (list_rel r hes)
    exact ⟨_,by simp [Builtin.len_,run_underlying hu,goInt],.d (.int _ _)⟩
   ·cases h
 ·rename_i n e hu
  injection h with h; subst h
  exact ⟨_,by simp [Builtin.len_,run_underlying hu,goInt],.d (.int _ _)⟩
 ·cases h
def convV (P : Program) (dst : TypeId) (x : V) : Option V :=
 match x with
 | .d (.int _ n)=>match P.underlying dst with | some (.int k)=>some (.d (.int k (k.wrap n))) | _=>none
 | .d (.str s)=>match P.underlying dst with | some .string=>some (.d (.str s)) | _=>none
 | _=>none
theorem convV_ok {P : Program} {G : Cx} {src dst : TypeId} {x y : V} {v : Value} (r : rel G x v) (hsrc : (P.underlying src).isSome = true) (h : convV P dst x = some y) (w : World) : ∃ u,(convert src dst v).run P w = .ok u w ∧ rel G y u := by
 obtain ⟨ds,hs⟩ := Option.isSome_iff_exists.1 hsrc
 unfold convV at h
 split at h
 ·rename_i k0 n
  split at h
  ·rename_i k hu
   injection h with h; subst h
   cases r with
   | d q =>
    cases q
    exact ⟨_,by simp [convert,run_underlying hs,run_underlying hu,Conv.intToInt],.d (.int _ _)⟩
  ·cases h
 ·rename_i s
  split at h
  ·rename_i hu
   injection h with h; subst h
   cases r with
   | d q =>
    cases q
    exact ⟨_,by simp [convert,run_underlying hs,run_underlying hu],.d (.str _)⟩
  ·cases h
 ·cases h
def unV (op : UnOp) (x : V) : Option V :=
 match op,x with
 | .neg,.d (.int k n)=>some (.d (.int k (k.wrap (0 - n))))
 | .not,.d (.bool b)=>some (.d (.bool (!b)))
 | _,_=>none
theorem unV_ok {P : Program} {G : Cx} {op : UnOp} {x y : V} {v : Value} (r : rel G x v) (h : unV op x = some y) (w : World) : ∃ u,(Op.unary op v).run P w = .ok u w ∧ rel G y u := by
 unfold unV at h
 split at h
 ·injection h with h; subst h
  cases r with
  | d q=>cases q; exact ⟨_,by simp only [Op.unary,Op.intArith,Sem.run_pure],.d (.int _ _)⟩
 ·injection h with h; subst h
  cases r with
  | d q=>cases q; exact ⟨_,by simp only [Op.unary,Sem.run_pure],.d (.bool _)⟩
 ·cases h
def splice (cs : List V) (off : Nat) (xs : List V) : List V := cs.take off ++ xs ++ cs.drop (off + xs.length)
def fillV (place : Nat → Option (Nat × Nat)) (cells : List V) : List (Nat × V) → Option (List V)
 | []=>some cells
 | (i,x) :: rest =>
  match place i,x.cells? with
  | some (off,size),some cs=>if cs.length = size ∧ off + cs.length ≤ cells.length then fillV place (splice cells off cs) rest else none
  | _,_=>none
theorem fold_set (vs : List Value) (xs : List Value) (off : Nat) (h : off + xs.length ≤ vs.length) :
  (xs.zipIdx.foldl (fun (cs : Array Value) (p : Value × Nat)=>cs.setIfInBounds (off + p.2) p.1) ⟨vs⟩) = (⟨vs.take off ++ xs ++ vs.drop (off + xs.length)⟩ : Array Value) := by
 have key : ∀ (xs : List Value) (k : Nat) (vs : List Value),off + k + xs.length ≤ vs.length → ((xs.zipIdx k).foldl (fun (cs : Array Value) (p : Value × Nat)=>cs.setIfInBounds (off + p.2) p.1) ⟨vs⟩) = (⟨vs.take (off + k) ++ xs ++ vs.drop (off + k + xs.length)⟩ : Array Value) := by
  intro xs
  induction xs with
  | nil=>intro k vs _; simp
  | cons x xs ih =>
   intro k vs hl
   simp only [List.zipIdx_cons,List.foldl_cons]
   simp only [List.length_cons] at hl
   rw [show (⟨vs⟩ : Array Value).setIfInBounds (off + k) x = ⟨vs.set (off + k) x⟩ by simp]
   rw [ih (k + 1) (vs.set (off + k) x) (by simp; omega)]
   congr 1
   rw [show off + (k + 1) = (off + k) + 1 by omega]
   generalize off + k = p at *
   have hp : p < vs.length := by omega
   have e1 : (vs.set p x).take (p + 1) = vs.take p ++ [x] := by
    rw [List.take_succ_eq_append_getElem (by simpa using hp),List.take_set_of_le (by omega)]
    simp
   have e2 : (vs.set p x).drop (p + 1 + xs.length) = vs.drop (p + (x :: xs).length) := by
    rw [List.drop_set_of_lt (by omega)]
    simp only [List.length_cons]
    congr 1
    omega
   rw [e1,e2]
   simp
 have := key xs 0 vs (by omega)
 simpa using this
theorem fillV_ok {G : Cx} {place : Nat → Option (Nat × Nat)} : ∀ (parts : List (Nat × V)) (us : List (Nat × Value)) (cells : List V) (vs : List Value) (out : List V),fillV place cells parts = some out → rels G cells vs →
  parts.length = us.length → (∀ (i : Nat) (p : Nat × V) (q : Nat × Value),parts[i]? = some p → us[i]? = some q → p.1 = q.1 ∧ rel G p.2 q.2) → ∃ ws,Instr.fill place ⟨vs⟩ us = some ⟨ws⟩ ∧ rels G out ws
 | [],us,cells,vs,out,h,r,hl,_=>by
  have : us = [] := List.eq_nil_of_length_eq_zero hl.symm
  subst this
  simp only [fillV] at h; injection h with h; subst h
  exact ⟨vs,rfl,r⟩
 | (i,x) :: rest,us,cells,vs,out,h,r,hl,hp=>by
  cases us with
  | nil=>simp at hl
  | cons q us =>
   obtain ⟨j,v⟩ := q
   obtain ⟨rfl,hx⟩ := hp 0 (i,x) (j,v) rfl rfl
   simp only at hx
   unfold fillV at h
   split at h
   ·rename_i off size cs hpl hcs
    split at h
    ·rename_i hc
     have hr := cells_rel hx hcs
     have hsz : v.cells.size = cs.length := by rw [hr.1]; simp
     have hr' : rels G (splice cells off cs) (vs.take off ++ v.cells.toList ++ vs.drop (off + v.cells.size)) := by
      refine ⟨by simp [splice,r.1,hsz],fun m y u h1 h2=>?_⟩
      unfold splice at h1
      have hlen := r.1
      have hoff : (cells.take off).length = (vs.take off).length := by simp [hlen]
      rcases Nat.lt_or_ge m (cells.take off ++ cs).length with q | q
      ·rw [List.getElem?_append_left q] at h1
       rw [List.getElem?_append_left (by simp only [List.length_append] at q ⊢; simp only [Array.length_toList]; omega)] at h2
       rcases Nat.lt_or_ge m (cells.take off).length with q2 | q2
       ·rw [List.getElem?_append_left q2] at h1
        rw [List.getElem?_append_left (hoff ▸ q2)] at h2
        rw [List.getElem?_take] at h1 h2
        split at h1
        ·rename_i hm; rw [if_pos hm] at h2; exact r.2 m y u h1 h2
        ·cases h1
       ·rw [List.getElem?_append_right q2] at h1
        rw [List.getElem?_append_right (hoff ▸ q2),← hoff] at h2
        exact hr.2 _ y u h1 h2
      ·rw [List.getElem?_append_right q] at h1
       rw [List.getElem?_append_right (by simp only [List.length_append] at q ⊢; simp only [Array.length_toList]; omega)] at h2
       rw [List.getElem?_drop] at h1 h2
       refine r.2 _ y u h1 ?_
       rw [← h2]
       congr 1
       simp only [List.length_append,Array.length_toList]
       omega
     obtain ⟨ws,w1,w2⟩ := fillV_ok rest us _ _ out h hr' (by simpa using hl) (fun i p q h1 h2=>hp (i + 1) p q (by simpa using h1) (by simpa using h2))
     refine ⟨ws,?_,w2⟩
     have hno : ¬ (v.cells.size ≠ size || decide (off + v.cells.size > (⟨vs⟩ : Array Value).size)) = true := by
      simp only [List.size_toArray,Bool.or_eq_true,decide_eq_true_eq]
      have := r.1
      rintro (q | q)
      ·simp at q; omega
      ·omega
     simp only [Instr.fill,hpl]
     rw [if_neg hno]
     have hz : v.cells.zipIdx.foldl (fun cs x=>cs.setIfInBounds (off + x.2) x.1) (⟨vs⟩ : Array Value) = ⟨vs.take off ++ v.cells.toList ++ vs.drop (off + v.cells.size)⟩ := by
      have := fold_set vs v.cells.toList off (by simp only [Array.length_toList]; have := r.1; omega)
      rw [← Array.foldl_toList,Array.toList_zipIdx]
      simpa using this
     simp only [hz]
     exact w1
    ·cases h
   ·cases h
end Go.Proofs.YtjgngikiglhleaaGreatDoor
