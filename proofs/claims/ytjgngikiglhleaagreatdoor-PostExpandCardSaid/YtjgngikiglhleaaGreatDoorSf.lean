import Derived.Test.YtjgngikiglhleaaGreatDoorSe
namespace Go.Proofs.YtjgngikiglhleaaGreatDoor
open Go.RowKit
def bnd (d : Nat) : Option V → Option Nat
 | none=>some d
 | some (.d (.int _ n))=>if n < 0 then none else some n.toNat
 | _=>none
theorem bnd_some (d d' : Nat) (x : V) : bnd d (some x) = bnd d' (some x) := by
 cases x <;> first | rfl | (rename_i q; cases q <;> rfl)
def relO (G : Cx) : Option V → Option Value → Prop
 | none,none=>True
 | some x,some v=>rel G x v
 | _,_=>False
theorem run_bound {P : Program} {G : Cx} {x : V} {v : Value} {d n y : Nat} (r : rel G x v) (h : bnd d (some x) = some n) (hy : n ≤ y) (code : BoundsCode) (w : World) : (Instr.sliceBound v y code).run P w = .ok n w := by
 unfold bnd at h
 split at h
 ·cases ‹_ = none›
 ·rename_i k i hx
  injection hx with hx; subst hx
  split at h
  ·cases h
  ·rename_i hn
   injection h with h
   cases r with
   | d q =>
    cases q
    have h1 : (0 : Int) ≤ i := by omega
    have h2 : i ≤ (y : Int) := by omega
    simp [Instr.sliceBound,asIntOf,h1,h2,h]
 ·cases h
theorem run_bounds {P : Program} {G : Cx} {lo hi mx : Option V} {vl vh vm : Option Value} {l h m len cap : Nat} (rl : relO G lo vl) (rh : relO G hi vh) (rm : relO G mx vm)
  (hm : bnd cap mx = some m) (hh : bnd len hi = some h) (hl : bnd 0 lo = some l) (h1 : m ≤ cap) (h2 : h ≤ m) (h3 : l ≤ h) (hmx : mx.isSome = true → hi.isSome = true) (isS : Bool) (w : World) :
  (Instr.sliceBounds isS len cap vl vh vm).run P w = .ok (l,h,m) w := by
 cases mx with
 | none =>
  cases vm with
  | some _=>exact rm.elim
  | none =>
   have hm' : cap = m := by simpa [bnd] using hm
   subst hm'
   cases hi with
   | none =>
    cases vh with
    | some _=>exact rh.elim
    | none =>
     have hh' : len = h := by simpa [bnd] using hh
     subst hh'
     cases lo with
     | none =>
      cases vl with
      | some _=>exact rl.elim
      | none =>
       have hl' : 0 = l := by simpa [bnd] using hl
       subst hl'
       simp [Instr.sliceBounds]
     | some x =>
      cases vl with
      | none=>exact rl.elim
      | some v=>simp [Instr.sliceBounds,run_bound rl hl h3]
   | some y =>
    cases vh with
    | none=>exact rh.elim
    | some vy =>
     cases lo with
     | none =>
      cases vl with
      | some _=>exact rl.elim
      | none =>
       have hl' : 0 = l := by simpa [bnd] using hl
       subst hl'
       simp [Instr.sliceBounds,run_bound rh hh h2]
     | some x =>
      cases vl with
      | none=>exact rl.elim
      | some v=>simp [Instr.sliceBounds,run_bound rl hl h3,run_bound rh hh h2]
 | some z =>
  cases vm with
  | none=>exact rm.elim
  | some vz =>
   cases hi with
   | none=>simp at hmx
   | some y =>
    cases vh with
    | none=>exact rh.elim
    | some vy =>
     cases lo with
     | none =>
      cases vl with
      | some _=>exact rl.elim
      | none =>
       have hl' : 0 = l := by simpa [bnd] using hl
       subst hl'
       simp [Instr.sliceBounds,run_bound rm hm h1,run_bound rh hh h2]
     | some x =>
      cases vl with
      | none=>exact rl.elim
      | some v=>simp [Instr.sliceBounds,run_bound rm hm h1,run_bound rl hl h3,run_bound rh hh h2]
def sliceV (P : Program) (t : TypeId) (x : V) (lo hi mx : Option V) : Option V :=
 match P.underlying t with
 | some .string=>match x with
  | .d (.str s)=>if mx.isSome then none else match bnd 0 lo,bnd s.length hi with
   | some l,some h=>if l ≤ h ∧ h ≤ s.length then some (.d (.str ((s.drop l).take (h - l)))) else none
   | _,_=>none
  | _=>none
 | some (.slice e)=>match sizeT P e with
  | none=>none
  | some sz=>match x with
   | .sl k off len cap=>match bnd 0 lo,bnd len hi,bnd cap mx with
    | some l,some h,some m=>if l ≤ h ∧ h ≤ m ∧ m ≤ cap ∧ (mx.isSome = true → hi.isSome = true) then some (.sl k (if m = l then off else off + l * sz) (h - l) (m - l)) else none
    | _,_,_=>none
   | _=>match x.list? with
    | some es=>match mx with
     | none=>match bnd 0 lo,bnd es.length hi with
      | some l,some h=>if l ≤ h ∧ h ≤ es.length ∧ es.all (·.length == sz) then some (.d (.list ((es.drop l).take (h - l)))) else none
      | _,_=>none
     | some _=>match bnd 0 lo,bnd es.length hi,bnd 0 mx with
      | some l,some h,some m=>if l ≤ h ∧ h = m ∧ m ≤ es.length ∧ hi.isSome = true ∧ es.all (·.length == sz) then some (.full ((es.drop l).take (h - l))) else none
      | _,_,_=>none
    | none=>none
 | some (.array n e)=>match sizeT P e with
  | none=>none
  | some sz=>match x with
   | .ptr k off=>match bnd 0 lo,bnd n hi,bnd n mx with
    | some l,some h,some m=>if l ≤ h ∧ h ≤ m ∧ m ≤ n ∧ (mx.isSome = true → hi.isSome = true) then some (.sl k (if m = l then off else off + l * sz) (h - l) (m - l)) else none
    | _,_,_=>none
   | _=>none
 | _=>none
theorem extract_str (s : List UInt8) (l h : Nat) : (⟨s.toArray⟩ : ByteArray).extract l h = ⟨((s.drop l).take (h - l)).toArray⟩ := by
 apply ByteArray.ext
 simp
theorem sub_list {F : Nat → Nat → Value → Prop} {es : List (List D)} {A : Option Addr} {n c sz l h m : Nat} (r : relD F (.list es) (.slice A n c)) (hsz : es.all (·.length == sz) = true) (h1 : l ≤ h) (h2 : h ≤ es.length) (h3 : h ≤ m) :
  relD F (.list ((es.drop l).take (h - l))) (.slice (if m = l then A else A.map (·.add (l * sz))) (h - l) (m - l)) := by
 have hlen : ((es.drop l).take (h - l)).length = h - l := by simp; omega
 by_cases hz : h = l
 ·subst hz
  have : (es.drop h).take (h - h) = [] := by simp
  rw [this,Nat.sub_self]
  exact .nil _ _
 ·rw [if_neg (by omega)]
  cases r with
  | nil A c=>simp at h2; omega
  | list _ b off c sz' u hne hcap hs hF hr =>
   have e0 : sz' = sz := by
    have q := List.all_eq_true.1 hsz es[0] (List.getElem_mem _)
    have q2 := hs 0 es[0] (List.getElem?_eq_getElem hne)
    simp at q
    omega
   subst e0
   have key := relD.list (F := F) ((es.drop l).take (h - l)) b (off + l * sz') (m - l) sz' (fun i j=>u (l + i) j) (by omega) (by omega)
    (fun i e he=>by
     rw [List.getElem?_take] at he
     split at he
     ·rw [List.getElem?_drop] at he; exact hs _ _ he
     ·cases he)
    (fun i j e x he hx=>by
     rw [List.getElem?_take] at he
     split at he
     ·rw [List.getElem?_drop] at he
      have := hF _ j e x he hx
      rw [Nat.add_mul] at this
      have e3 : off + l * sz' + i * sz' + j = off + (l * sz' + i * sz') + j := by omega
      rw [e3]; exact this
     ·cases he)
    (fun i j e x he hx=>by
     rw [List.getElem?_take] at he
     split at he
     ·rw [List.getElem?_drop] at he; exact hr _ j e x he hx
     ·cases he)
   rw [hlen] at key
   simp only [Option.map_some,Addr.add_lit]
   exact key
theorem sliceV_ok {P : Program} {G : Cx} {t : TypeId} {x y : V} {v : Value} {lo hi mx : Option V} {vl vh vm : Option Value} (r : rel G x v) (rl : relO G lo vl) (rh : relO G hi vh) (rm : relO G mx vm) (h : sliceV P t x lo hi mx = some y) (w : World) :
  ∃ u,(Instr.sliceAt t v vl vh vm).run P w = .ok u w ∧ rel G y u := by
 unfold sliceV at h
 split at h
 ·rename_i hu
  split at h
  ·rename_i s
   split at h
   ·cases h
   ·rename_i hmx
    split at h
    ·rename_i l hh hl hhi
     split at h
     ·rename_i hc
      injection h with h; subst h
      cases mx with
      | some _=>simp at hmx
      | none =>
       cases vm with
       | some _=>exact rm.elim
       | none =>
        cases r with
        | d q =>
         cases q
         have hz : (⟨s.toArray⟩ : ByteArray).size = s.length := rfl
         have hb := run_bounds (P := P) (cap := s.length) (m := s.length) (mx := none) (vm := none) rl rh trivial rfl hhi hl (Nat.le_refl _) hc.2 hc.1 (by simp) false w
         refine ⟨.string ⟨((s.drop l).take (hh - l)).toArray⟩,?_,.d (.str _)⟩
         simp only [Instr.sliceAt,Instr.slice,Sem.run_bind,run_underlying hu,Result.andThen_ok,Option.isSome_none,Bool.false_eq_true,if_false,hz,hb,Sem.run_pure,extract_str]
     ·cases h
    ·cases h
  ·cases h
 ·rename_i e hu
  cases hs : sizeT P e with
  | none=>rw [hs] at h; cases h
  | some sz =>
   rw [hs] at h
   simp only at h
   split at h
   ·rename_i k off len cap
    split at h
    ·rename_i l hh m hl hhi hm
     split at h
     ·rename_i hc
      injection h with h; subst h
      cases r with
      | sl _ _ _ _ b q =>
       have hb := run_bounds (P := P) rl rh rm hm hhi hl hc.2.2.1 hc.2.1 hc.1 hc.2.2.2 true w
       refine ⟨_,?_,.sl k (if m = l then off else off + l * sz) (hh - l) (m - l) b q⟩
       simp only [Instr.sliceAt,Instr.slice,Sem.run_bind,run_underlying hu,Result.andThen_ok,hb,run_size hs,Sem.run_pure,Option.map_some,Addr.add_lit]
       split <;> rfl
     ·cases h
    ·cases h
   ·split at h
    ·rename_i es hes
     have hL := list_rel r hes
     split at h
     ·split at h
      ·rename_i l hh hl hhi
       split at h
       ·rename_i hc
        injection h with h; subst h
        cases vm with
        | some _=>exact rm.elim
        | none =>
         obtain ⟨A,c,rfl⟩ := list_len hL
         have hcap : es.length ≤ c := by cases hL <;> simp_all
         have hb := run_bounds (P := P) (len := es.length) (cap := c) (m := c) (mx := none) (vm := none) rl rh trivial rfl hhi hl (Nat.le_refl _) (by omega) hc.1 (by simp) true w
         refine ⟨_,?_,.d (sub_list hL hc.2.2 hc.1 hc.2.1 (m := c) (by omega))⟩
         simp only [Instr.sliceAt,Instr.slice,Sem.run_bind,run_underlying hu,Result.andThen_ok,hb,run_size hs,Sem.run_pure]
       ·cases h
      ·cases h
     ·rename_i mxv
      split at h
      ·rename_i l hh m hl hhi hm
       split at h
       ·rename_i hc
        obtain ⟨c1,c2,c3,c4,c5⟩ := hc
        subst c2
        injection h with h; subst h
        obtain ⟨A,c,rfl⟩ := list_len hL
        have hcap : es.length ≤ c := by cases hL <;> simp_all
        have hm' : bnd c (some mxv) = some hh := by rw [bnd_some c 0]; exact hm
        have hb := run_bounds (P := P) (len := es.length) (cap := c) (m := hh) rl rh rm hm' hhi hl (by omega) (Nat.le_refl _) c1 (fun _=>c4) true w
        have hlen : ((es.drop l).take (hh - l)).length = hh - l := by simp; omega
        have hsub := sub_list hL c5 c1 (by omega) (m := hh) (Nat.le_refl _)
        have hf := rel.full (G := G) ((es.drop l).take (hh - l)) (if hh = l then A else A.map (·.add (l * sz))) (by rw [hlen]; exact hsub)
        rw [hlen] at hf
        refine ⟨_,?_,hf⟩
        simp only [Instr.sliceAt,Instr.slice,Sem.run_bind,run_underlying hu,Result.andThen_ok,hb,run_size hs,Sem.run_pure]
       ·cases h
      ·cases h
    ·cases h
 ·rename_i n e hu
  cases hs : sizeT P e with
  | none=>rw [hs] at h; cases h
  | some sz =>
   rw [hs] at h
   simp only at h
   split at h
   ·rename_i k off
    split at h
    ·rename_i l hh m hl hhi hm
     split at h
     ·rename_i hc
      injection h with h; subst h
      cases r with
      | ptr _ _ b q =>
       have hb := run_bounds (P := P) rl rh rm hm hhi hl hc.2.2.1 hc.2.1 hc.1 hc.2.2.2 false w
       refine ⟨_,?_,.sl k (if m = l then off else off + l * sz) (hh - l) (m - l) b q⟩
       simp only [Instr.sliceAt,Sem.run_bind,run_underlying hu,Result.andThen_ok,Instr.sureAddr,Sem.run_pure,hb,run_size hs,Addr.add_lit]
       split <;> rfl
     ·cases h
    ·cases h
   ·cases h
 ·cases h
end Go.Proofs.YtjgngikiglhleaaGreatDoor
