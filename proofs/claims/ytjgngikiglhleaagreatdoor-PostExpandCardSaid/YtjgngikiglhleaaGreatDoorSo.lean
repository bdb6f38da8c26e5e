import Derived.Test.YtjgngikiglhleaaGreatDoorSmn
namespace Go.Proofs.YtjgngikiglhleaaGreatDoor
open Go.RowKit
set_option linter.unusedVariables false
set_option linter.unusedSimpArgs false
theorem region_draw {P : Program} {g : Pg P} {id : Nat} {ops : Array Oper} {fr : Fr} {s : Sg} {K : Fr → Sg → Prop} (h : regS g true ops ops.toList fr s (fun fr' s'=>sepL (seps ops) fr' = true ∧ K fr' s')) (hd : drawOk ops = true) {w0 w : World} {G0 G : Cx} {a : Act} {Q : Exit → Act → World → Prop} (hQ : ∀ a w,Post g w0 G0 K a w → Q .normal a w) (h0 : G0.le G) (hH : HR P w0 w G s) (hfr : FR G fr a) (hdf : a.defers = []) :
  (Code.region id ops true).wp P Q a w := by
 obtain ⟨frs,sgs,res,eff,e1,e2,ht,hK⟩ := trace_of ops.toList 0 fr s rfl (Nat.zero_le _) h
 refine wp_region_any g.mixed ?_
 have hrep : ∀ j,(Array.replicate ops.size false).getD j false = false := by
  intro j
  rw [Array.getD_eq_getD_getElem?]
  rcases Nat.lt_or_ge j ops.size with z | z
  ·rw [Array.getElem?_eq_getElem (by simpa using z)]; simp
  ·rw [Array.getElem?_eq_none (by simpa using z)]; rfl
 refine reg_drawn ht hd hQ hK.2 hK.1 ops.size (Array.replicate ops.size false) G a _ (by simp) (fun i o _ hl=>by rw [hrep] at hl; cases hl) (cnt_le _ _) h0 ?_ ?_ hdf
 ·have e3 : obsR sgs eff (Array.replicate ops.size false) ops.size = fun k=>s.obs[k]? := by
   funext k
   rw [obsR_keep (i := 0) (Nat.zero_le _) fun j _ _ _=>hrep j]
   show (sgs 0).obs[k]? = _
   rw [e2]
  have e4 : lnsL ops.size sgs eff (Array.replicate ops.size false) = fun k=>s.lns[k]? := by
   unfold lnsL
   rw [if_neg]
   ·rw [← e2]; rfl
   ·intro hl
    rw [List.any_eq_true] at hl
    obtain ⟨j,_,hl⟩ := hl
    rw [hrep] at hl; cases hl
  rw [e3,e4]
  exact hH.kept ((Kp.refl w).drew)
 ·have : cfL ops frs res (Array.replicate ops.size false) = fr := by
   rw [← e1]
   apply List.ext_getElem?
   intro t
   have hl1 := cf_len ops frs res (Array.replicate ops.size false)
   rcases Nat.lt_or_ge t (frs 0).length with z | z
   ·have a1 : (cfL ops frs res (Array.replicate ops.size false))[t]? = some ((cfL ops frs res (Array.replicate ops.size false)).getD t .undef) := by
     rw [List.getD_eq_getElem?_getD,List.getElem?_eq_getElem (by omega)]; rfl
    have a2 : (frs 0)[t]? = some ((frs 0).getD t .undef) := by
     rw [List.getD_eq_getElem?_getD,List.getElem?_eq_getElem z]; rfl
    rw [a1,a2,cf_getD]
    unfold valAt
    rw [lw_cut 0 ops.size (Nat.zero_le _) (fun j _ _ _=>hrep j)]
    rfl
   ·rw [List.getElem?_eq_none (by omega),List.getElem?_eq_none z]
  rw [this]; exact hfr
mutual
def V.under (n m : Nat) : V → Bool
 | .own t _=>decide (t < m)
 | .ptr k _=>decide (k < n)
 | .sl k _ _ _=>decide (k < n)
 | .mp k=>decide (k < n)
 | .gr k _=>decide (k < n)
 | .gp k _ _ _=>decide (k < n)
 | .adr k=>decide (k < n)
 | .gs k _ _ _=>decide (k < n)
 | .agg cs=>V.unders n m cs
 | .tuple cs=>V.unders n m cs
 | .fn _ cs=>V.unders n m cs
 | _=>true
def V.unders (n m : Nat) : List V → Bool
 | []=>true
 | x :: xs=>V.under n m x && V.unders n m xs
end
theorem unders_at {n m : Nat} : ∀ {cs : List V} {i : Nat} {x : V},V.unders n m cs = true → cs[i]? = some x → V.under n m x = true
 | [],i,x,_,h=>by simp at h
 | y :: ys,i,x,hb,h=>by
  simp only [V.unders,Bool.and_eq_true] at hb
  cases i with
  | zero=>simp at h; subst h; exact hb.1
  | succ i=>simp at h; exact unders_at hb.2 h
def Cx.restr (G : Cx) (n m : Nat) : Cx := { G with ob := fun k=>if k < n then G.ob k else none,lv := fun t=>if t < m then G.lv t else none,mp := fun k=>if k < n then G.mp k else none,rv := fun k=>if k < n then G.rv k else none }
theorem rel_restr {G : Cx} {n m : Nat} {x : V} {v : Value} (r : rel G x v) : x.under n m = true → rel (G.restr n m) x v := by
 induction r with
 | undef v=>intro _; exact .undef v
 | d q=>intro _; exact .d q
 | agg cs vs hl _ ih=>intro hb; simp only [V.under] at hb; exact .agg cs vs hl (fun i x v h1 h2=>ih i x v h1 h2 (unders_at hb h1))
 | tuple cs vs hl _ ih=>intro hb; simp only [V.under] at hb; exact .tuple cs vs hl (fun i x v h1 h2=>ih i x v h1 h2 (unders_at hb h1))
 | ptr k off b q=>intro hb; simp only [V.under,decide_eq_true_eq] at hb; exact .ptr k off b (by simp [Cx.restr,hb,q])
 | iptr cs off b o u q1 q2=>intro _; exact .iptr cs off b o u q1 q2
 | own t es v q L hL hs hl=>intro hb; simp only [V.under,decide_eq_true_eq] at hb; exact .own t es v q L (by simp [Cx.restr,hb,hL]) hs hl
 | full es A q=>intro _; exact .full es A q
 | nil=>intro _; exact .nil
 | skip=>intro _; exact .skip
 | sl k off len cap b q=>intro hb; simp only [V.under,decide_eq_true_eq] at hb; exact .sl k off len cap b (by simp [Cx.restr,hb,q])
 | fn f cs vs hl _ ih=>intro hb; simp only [V.under] at hb; exact .fn f cs vs hl (fun i x v h1 h2=>ih i x v h1 h2 (unders_at hb h1))
 | mp k b q=>intro hb; simp only [V.under,decide_eq_true_eq] at hb; exact .mp k b (by simp [Cx.restr,hb,q])
 | gr k j v h1 L hL hl=>intro hb; simp only [V.under,decide_eq_true_eq] at hb; exact .gr k j v h1 L (by simp [Cx.restr,hb,hL]) hl
 | gp k j i off v h1 L hL hl=>intro hb; simp only [V.under,decide_eq_true_eq] at hb; exact .gp k j i off v h1 L (by simp [Cx.restr,hb,hL]) hl
 | adr k v b q1 q2 q3=>intro hb; simp only [V.under,decide_eq_true_eq] at hb; exact .adr k v b (by simp [Cx.restr,hb,q1]) q2 q3
 | gs k j off len v h1 L hL hl=>intro hb; simp only [V.under,decide_eq_true_eq] at hb; exact .gs k j off len v h1 L (by simp [Cx.restr,hb,hL]) hl
def Sg.cut (s : Sg) (n m : Nat) : Sg := ⟨s.obs.take n,s.lns.take m⟩
def maskF (L : List Nat) (fr : Fr) : Fr := fr.zipIdx.map fun p=>if L.contains p.2 then p.1 else .undef
def keptOk (L : List Nat) (n m : Nat) (fr : Fr) (s : Sg) : Bool := (fr.zipIdx.all fun p=>!L.contains p.2 || p.1.under n m) && (s.obs.take n).all fun cs=>V.unders n m cs
theorem mask_len (L : List Nat) (fr : Fr) : (maskF L fr).length = fr.length := by simp [maskF]
theorem mask_getD (L : List Nat) (fr : Fr) (t : Nat) : (maskF L fr).getD t .undef = if L.contains t = true then fr.getD t .undef else .undef := by
 rw [List.getD_eq_getElem?_getD,List.getD_eq_getElem?_getD]
 unfold maskF
 rw [List.getElem?_map,List.getElem?_zipIdx]
 cases h : fr[t]? with
 | none=>simp
 | some x=>simp
theorem FR_mask {G : Cx} {fr : Fr} {a : Act} (h : FR G fr a) (L : List Nat) : FR G (maskF L fr) a := by
 refine ⟨by rw [mask_len]; exact h.1,fun t=>?_⟩
 rw [mask_getD]
 split
 ·exact h.2 t
 ·exact .undef _
theorem FR_cut {G : Cx} {fr : Fr} {a : Act} {s : Sg} {L : List Nat} {n m : Nat} (h : FR G fr a) (hk : keptOk L n m fr s = true) : FR (G.restr n m) (maskF L fr) a := by
 refine ⟨by rw [mask_len]; exact h.1,fun t=>?_⟩
 rw [mask_getD]
 split
 ·rename_i hc
  have h2 := h.2 t
  refine rel_restr h2 ?_
  unfold keptOk at hk
  simp only [Bool.and_eq_true,List.all_eq_true] at hk
  rw [List.getD_eq_getElem?_getD]
  cases hx : fr[t]? with
  | none=>simp [V.under]
  | some x =>
   have := hk.1 (x,t) (by rw [List.mem_zipIdx_iff_getElem?]; exact hx)
   simp only [Bool.or_eq_true,Bool.not_eq_true'] at this
   rcases this with q | q
   ·rw [q] at hc; cases hc
   ·exact q
 ·exact .undef _
theorem HR_cut {P : Program} {w0 w : World} {G : Cx} {s : Sg} {fr : Fr} {L : List Nat} {n m : Nat} (h : HR P w0 w G s) (hk : keptOk L n m fr s = true) : HR P w0 w (G.restr n m) (s.cut n m) := by
 have ho : ∀ k b,(G.restr n m).ob k = some b → k < n ∧ G.ob k = some b := by
  intro k b q
  simp only [Cx.restr] at q
  split at q
  ·exact ⟨‹_›,q⟩
  ·cases q
 have hl : ∀ t L',(G.restr n m).lv t = some L' → t < m ∧ G.lv t = some L' := by
  intro k b q
  simp only [Cx.restr] at q
  split at q
  ·exact ⟨‹_›,q⟩
  ·cases q
 unfold keptOk at hk
 simp only [Bool.and_eq_true,List.all_eq_true] at hk
 have hm : ∀ k b,(G.restr n m).mp k = some b → k < n ∧ G.mp k = some b := by
  intro k b q
  simp only [Cx.restr] at q
  split at q
  ·exact ⟨‹_›,q⟩
  ·cases q
 have hrv : ∀ k L',(G.restr n m).rv k = some L' → k < n ∧ G.rv k = some L' := by
  intro k b q
  simp only [Cx.restr] at q
  split at q
  ·exact ⟨‹_›,q⟩
  ·cases q
 refine ⟨h.kp,h.fs,h.fb,?_,?_,?_,?_,?_,?_,h.gb,fun k b q=>?_,fun k b q=>?_,fun k k' b q q'=>h.mpi k k' b (hm k b q).2 (hm k' b q').2,fun k b q=>?_,fun k L q=>?_,fun k k' L L' b q q'=>h.rvi k k' L L' b (hrv k L q).2 (hrv k' L' q').2,h.tgs⟩
 ·intro k b q
  obtain ⟨q1,q2⟩ := ho k b q
  have := h.obd k b q2
  show (s.obs.take n)[k]? ≠ none
  rw [List.getElem?_take,if_pos q1]; exact this
 ·intro k cs q hmk hrk
  have q' : (s.obs.take n)[k]? = some cs := q
  have hmem := List.mem_of_getElem? q'
  rw [List.getElem?_take] at q'
  split at q'
  ·rename_i hkn
   obtain ⟨b,vs,t,h1,h2,h3,h4,h5⟩ := h.obl k cs q' (by simpa [Cx.restr,hkn] using hmk) (by simpa [Cx.restr,hkn] using hrk)
   refine ⟨b,vs,t,by simp [Cx.restr,hkn,h1],h2,h3,⟨h4.1,fun i x v a1 a2=>rel_restr (h4.2 i x v a1 a2) (unders_at (hk.2 cs hmem) a1)⟩,h5⟩
  ·cases q'
 ·intro k k' b q q'
  exact h.obi k k' b (ho k b q).2 (ho k' b q').2
 ·intro t L' q
  obtain ⟨q1,q2⟩ := hl t L' q
  have := h.lvd t L' q2
  show (s.lns.take m)[t]? ≠ none
  rw [List.getElem?_take,if_pos q1]; exact this
 ·intro t e n' q
  have q' : (s.lns.take m)[t]? = some (e,n') := q
  rw [List.getElem?_take] at q'
  split at q'
  ·rename_i htm
   obtain ⟨v,xs,h1,h2,h3⟩ := h.lvl t e n' q'
   exact ⟨v,xs,by simp [Cx.restr,htm,h1],h2,fun b hb=>⟨fun k q=>(h3 b hb).1 k (ho k b q).2,(h3 b hb).2⟩⟩
  ·cases q'
 ·intro t t' L1 L2 b q q' h1 h2
  exact h.lvi t t' L1 L2 b (hl t L1 q).2 (hl t' L2 q').2 h1 h2
 ·obtain ⟨q1,q2⟩ := ho k b q
  simp [Cx.restr,h.obm k b q2]
 ·obtain ⟨q1,q2⟩ := hm k b q
  obtain ⟨h1,es,c,ik,kvs,h2,h3,h4⟩ := h.mpl k b q2
  exact ⟨h1,es,c,ik,kvs,by show (s.obs.take n)[k]? = _; rw [List.getElem?_take,if_pos q1]; exact h2,h3,h4⟩
 ·obtain ⟨q1,q2⟩ := ho k b q
  simp [Cx.restr,h.obr k b q2]
 ·obtain ⟨q1,q2⟩ := hrv k L q
  obtain ⟨e,es,xs,h1,h2,h3,h4,h5,h6⟩ := h.rvl k L q2
  exact ⟨e,es,xs,by show (s.obs.take n)[k]? = _; rw [List.getElem?_take,if_pos q1]; exact h1,h2,h3,h4,h5,fun b hb=>⟨fun j q=>(h6 b hb).1 j (ho j b q).2,(h6 b hb).2.1,fun t L' q=>(h6 b hb).2.2 t L' (hl t L' q).2⟩⟩
theorem le_restr {P : Program} {w0 w w' : World} {G G' : Cx} {s : Sg} (h : HR P w0 w G s) (hle : G.le G') : G.le (G'.restr s.obs.length s.lns.length) := by
 refine ⟨hle.base,hle.F,fun k b q=>?_,fun t L q=>?_,fun k b q=>?_,fun k L q=>?_,hle.tg⟩
 ·have := h.obd k b q
  have hk : k < s.obs.length := by
   rcases Nat.lt_or_ge k s.obs.length with z | z
   ·exact z
   ·exact absurd (List.getElem?_eq_none z) this
  simp only [Cx.restr,if_pos hk]
  exact hle.ob k b q
 ·have := h.lvd t L q
  have ht : t < s.lns.length := by
   rcases Nat.lt_or_ge t s.lns.length with z | z
   ·exact z
   ·exact absurd (List.getElem?_eq_none z) this
  simp only [Cx.restr,if_pos ht]
  exact hle.lv t L q
 ·obtain ⟨_,es,c,ik,kvs,h2,_⟩ := h.mpl k b q
  have hk : k < s.obs.length := getElem_lt h2
  simp only [Cx.restr,if_pos hk]
  exact hle.mp k b q
 ·obtain ⟨e,es,xs,h2,_⟩ := h.rvl k L q
  have hk : k < s.obs.length := getElem_lt h2
  simp only [Cx.restr,if_pos hk]
  exact hle.rv k L q
inductive Gh where
 | slot (t : Nat) (e : TypeId)
 | cell (k off : Nat) (e : TypeId)
def ghS : List Gh → Fr → Sg → Option (Fr × Sg)
 | [],fr,s=>some (fr,s)
 | .slot t e :: r,fr,s=>match fr.getD t .undef with
  | .nil=>ghS r (fr.set t (.own s.lns.length [])) ⟨s.obs,s.lns ++ [(e,0)]⟩
  | _=>none
 | .cell k off e :: r,fr,s=>match s.obs[k]? with
  | some cs=>match cs[off]? with
   | some .nil=>ghS r fr ⟨s.obs.set k (cs.set off (.own s.lns.length [])),s.lns ++ [(e,0)]⟩
   | _=>none
  | none=>none
theorem own_nil {G : Cx} {t sz : Nat} {v : Value} (r : rel G .nil v) (h : G.lv t = some ⟨0,sz,.slice none 0 0⟩) : rel G (.own t []) v := by
 cases r
 exact .own t [] _ (.nil _ _) _ h (fun i e q=>by simp at q) (.inl ⟨rfl,rfl⟩)
theorem ghS_ok {P : Program} {w0 w : World} : ∀ (gh : List Gh) (fr : Fr) (s : Sg) (G : Cx) (a : Act) (fr' : Fr) (s' : Sg),ghS gh fr s = some (fr',s') → HR P w0 w G s → FR G fr a → ∃ G',G.le G' ∧ HR P w0 w G' s' ∧ FR G' fr' a
 | [],fr,s,G,a,fr',s',h,hH,hfr=>by
  simp only [ghS] at h; injection h with h; injection h with h1 h2; subst h1; subst h2
  exact ⟨G,Cx.le.refl G,hH,hfr⟩
 | x :: r,fr,s,G,a,fr',s',h,hH,hfr=>by
  have begin : ∀ e,∃ G',G.le G' ∧ HR P w0 w G' ⟨s.obs,s.lns ++ [(e,0)]⟩ ∧ G'.lv s.lns.length = some ⟨0,P.cellsOf e,.slice none 0 0⟩ := by
   intro e
   obtain ⟨b1,b2⟩ := HRp.begin hH s.lns.length (by simp) e
   refine ⟨_,b1,?_,upd_same _ _ _⟩
   have : upd (fun t=>s.lns[t]?) s.lns.length (e,0) = fun t=>(s.lns ++ [(e,0)])[t]? := by
    funext t
    by_cases q : t = s.lns.length
    ·subst q; rw [upd_same]; simp
    ·rw [upd_ne _ _ q]
     rcases Nat.lt_or_ge t s.lns.length with z | z
     ·rw [List.getElem?_append_left z]
     ·rw [List.getElem?_eq_none z,List.getElem?_eq_none (by simp; omega)]
   rw [this] at b2
   exact b2
  cases x with
  | slot t e =>
   simp only [ghS] at h
   split at h
   ·rename_i hx
    obtain ⟨G1,b1,b2,b3⟩ := begin e
    have hr := hfr.2 t
    rw [hx] at hr
    have hown := own_nil (rel_mono b1 hr) b3
    have hlt : t < fr.length := by
     rcases Nat.lt_or_ge t fr.length with z | z
     ·exact z
     ·rw [List.getD_eq_getElem?_getD,List.getElem?_eq_none z] at hx; cases hx
    have hfr1 : FR G1 (fr.set t (.own s.lns.length [])) a := by
     refine ⟨by simp [hfr.1],fun j=>?_⟩
     by_cases e : t = j
     ·subst e
      rw [List.getD_eq_getElem?_getD,List.getElem?_set,if_pos rfl,if_pos hlt]
      exact hown
     ·rw [List.getD_eq_getElem?_getD,List.getElem?_set_ne e,← List.getD_eq_getElem?_getD]
      exact rel_mono b1 (hfr.2 j)
    obtain ⟨G2,c1,c2,c3⟩ := ghS_ok r _ _ G1 a fr' s' h b2 hfr1
    exact ⟨G2,b1.trans c1,c2,c3⟩
   ·cases h
  | cell k off e =>
   simp only [ghS] at h
   split at h
   ·rename_i cs hcs
    split at h
    ·rename_i hx
     obtain ⟨G1,b1,b2,b3⟩ := begin e
     have hm : G1.mp k = none := by
      cases hq : G1.mp k with
      | none=>rfl
      | some b =>
       obtain ⟨_,_,_,ik,kvs,z,_⟩ := b2.mpl k b hq
       have z' : s.obs[k]? = some [.mapc ik kvs] := z
       rw [hcs] at z'
       injection z' with z'
       subst z'
       cases off with
       | zero=>simp at hx
       | succ n=>simp at hx
     have hrv : G1.rv k = none := by
      cases hq : G1.rv k with
      | none=>rfl
      | some L =>
       obtain ⟨e',es,_,z,_⟩ := b2.rvl k L hq
       have z' : s.obs[k]? = some [.rowc e' L.n es] := z
       rw [hcs] at z'
       injection z' with z'
       subst z'
       cases off with
       | zero=>simp at hx
       | succ n=>simp at hx
     obtain ⟨b,vs,t,q1,q2,q3,q4,q5⟩ := b2.obl k cs hcs hm hrv
     have hlt := getElem_lt hx
     have hkl := getElem_lt hcs
     have hr' : rels G1 (cs.set off (.own s.lns.length [])) vs := by
      refine ⟨by simp [q4.1],fun i x v a1 a2=>?_⟩
      by_cases e' : off = i
      ·subst e'
       rw [List.getElem?_set,if_pos rfl,if_pos hlt] at a1
       injection a1 with a1; subst a1
       exact own_nil (q4.2 off _ v hx a2) b3
      ·rw [List.getElem?_set_ne e'] at a1
       exact q4.2 i x v a1 a2
     have hp := HRp.put b2 q1 (w' := w) ⟨rfl,rfl,rfl,Nat.le_refl _,fun _ _ _=>rfl⟩ (fun _ _ q=>q) q3 hr'
     have hH1 : HR P w0 w G1 ⟨s.obs.set k (cs.set off (.own s.lns.length [])),s.lns ++ [(e,0)]⟩ := by
      have : upd (fun j=>s.obs[j]?) k (cs.set off (.own s.lns.length [])) = fun j=>(s.obs.set k (cs.set off (.own s.lns.length [])))[j]? := by
       funext j
       by_cases z : j = k
       ·subst z; rw [upd_same]; simp [hkl]
       ·rw [upd_ne _ _ z,List.getElem?_set_ne (fun y=>z y.symm)]
      rw [this] at hp
      exact hp
     obtain ⟨G2,c1,c2,c3⟩ := ghS_ok r _ _ G1 a fr' s' h hH1 (FR_mono b1 hfr)
     exact ⟨G2,b1.trans c1,c2,c3⟩
    ·cases h
   ·cases h
abbrev SQ := Exit → Fr → Sg → Prop
def seqQ (K : Fr → Sg → Prop) (Q : SQ) : SQ
 | .normal,fr,s=>K fr s
 | e,fr,s=>Q e fr s
def blockQ (id : Nat) (Q : SQ) : SQ
 | .exit j,fr,s=>if j = id then Q .normal fr s else Q (.exit j) fr s
 | e,fr,s=>Q e fr s
def drawsOk : Code → Bool
 | .region _ _ _=>true
 | .seq a b=>drawsOk a && drawsOk b
 | .cond _ x y=>drawsOk x && drawsOk y
 | .block _ c=>drawsOk c
 | .loop c=>drawsOk c
 | _=>true
def drawsOkS : Code → Bool
 | .region _ ops dr=>!dr || (drawOk ops && (seps ops).isEmpty)
 | .seq a b=>drawsOkS a && drawsOkS b
 | .cond _ x y=>drawsOkS x && drawsOkS y
 | .block _ c=>drawsOkS c
 | .loop c=>drawsOkS c
 | _=>true
def SW {P : Program} (g : Pg P) : Code → SQ → Fr → Sg → Prop
 | .skip,Q,fr,s=>Q .normal fr s
 | .region _ ops dr,Q,fr,s=>regS g dr ops ops.toList fr s (Q .normal)
 | .seq a b,Q,fr,s=>SW g a (seqQ (SW g b Q) Q) fr s
 | .cond c x y,Q,fr,s=>match evalO fr c with
  | .d (.bool b)=>if b = true then SW g x Q fr s else SW g y Q fr s
  | _=>False
 | .block id c,Q,fr,s=>SW g c (blockQ id Q) fr s
 | .loop c,Q,fr,s=>∃ (gh : List Gh) (fr0 : Fr) (s0 : Sg) (L : List Nat) (I : Nat → Fr → Sg → Prop) (n : Nat),ghS gh fr s = some (fr0,s0) ∧ I n (maskF L fr0) s0 ∧
   ∀ m fr1 s1,I m fr1 s1 → s1.obs.length = s0.obs.length ∧ s1.lns.length = s0.lns.length ∧
    SW g c (seqQ (fun fr' s'=>keptOk L s0.obs.length s0.lns.length fr' s' = true ∧ ∃ m',m' < m ∧ I m' (maskF L fr') (s'.cut s0.obs.length s0.lns.length)) Q) fr1 s1
 | .exit id,Q,fr,s=>Q (.exit id) fr s
 | .ret,Q,fr,s=>Q .ret fr s
 | .label _,Q,fr,s=>Q .normal fr s
 | _,_,_,_=>False
def lift {P : Program} (g : Pg P) (w0 : World) (G0 : Cx) (Q : SQ) : Exit → Act → World → Prop := fun e a w=>Post g w0 G0 (Q e) a w
theorem wp_loop_idx {P : Program} {c : Code} {Q : Exit → Act → World → Prop} (I : Nat → Act → World → Prop) {n : Nat} {a : Act} {w : World} (h₀ : I n a w)
  (round : ∀ m a w,I m a w → c.wp P (Exit.then (fun a' w'=>∃ m',m' < m ∧ I m' a' w') Q) a w) : (Code.loop c).wp P Q a w := by
 intro b k cs
 have key : ∀ n a w,I n a w → ∃ e a' w',Q e a' w' ∧ Arrives P (lone (b.at a (.code c :: .inLoop c :: k)) cs w) b k cs e a' w' := by
  intro n
  induction n using Nat.strongRecOn with
  | _ n ih =>
   intro a w hI
   obtain ⟨e,a₁,w₁,hq,harr⟩ := round n a w hI b (.inLoop c :: k) cs
   cases e with
   | normal =>
    obtain ⟨m',hlt,hI₁⟩ := hq
    obtain ⟨e₂,a₂,w₂,hq₂,harr₂⟩ := ih m' hlt a₁ w₁ hI₁
    exact ⟨e₂,a₂,w₂,hq₂,.of_steps (Steps.trans harr (.one step_inLoop)) harr₂⟩
   | exit id=>exact ⟨_,a₁,w₁,hq,.pass (x := .inLoop c) rfl (fun _ _=>.inl (by simp)) harr⟩
   | goto l=>exact ⟨_,a₁,w₁,hq,.pass (x := .inLoop c) rfl (fun _ _=>.inl (by simp)) harr⟩
   | ret=>exact ⟨_,a₁,w₁,hq,.pass (x := .inLoop c) rfl (fun _ _=>.inl (by simp)) harr⟩
   | panic ch=>exact ⟨_,a₁,w₁,hq,.pass (x := .inLoop c) rfl (fun _ _=>.inl (by simp)) harr⟩
   | outgrown=>exact ⟨_,a₁,w₁,hq,.pass (x := .inLoop c) rfl (fun _ _=>.inl (by simp)) harr⟩
 obtain ⟨e,a',w',hq,harr⟩ := key _ a w h₀
 exact ⟨e,a',w',hq,.of_steps (.one step_loop) harr⟩
theorem SW_ok {P : Program} {g : Pg P} : ∀ (c : Code),drawsOkS c = true → ∀ (Q : SQ) (fr : Fr) (s : Sg),SW g c Q fr s → ∀ (w0 : World) (G0 G : Cx) (a : Act) (w : World),G0.le G → HR P w0 w G s → FR G fr a → a.defers = [] → c.wp P (lift g w0 G0 Q) a w := by
 intro c
 induction c with
 | skip=>intro _ Q fr s h w0 G0 G a w h0 hH hfr hd; exact wp_skip ⟨G,fr,s,h0,hH,hfr,hd,h⟩
 | region id ops dr =>
  intro hdr Q fr s h w0 G0 G a w h0 hH hfr hd
  cases dr with
  | false=>exact wp_region_list (reg_seq (K := Q .normal) (fun a w q=>q) ops.toList fr s G a w h h0 hH hfr hd)
  | true =>
   have h2 : drawOk ops = true ∧ seps ops = [] := by simpa [drawsOkS] using hdr
   refine region_draw (K := Q .normal) ?_ h2.1 (fun a w q=>q) h0 hH hfr hd
   have : (fun fr' s'=>sepL (seps ops) fr' = true ∧ Q .normal fr' s') = Q .normal := by
    funext fr' s'; rw [h2.2]; simp [sepL]
   rw [this]; exact h
 | seq x y ihx ihy =>
  intro hdr Q fr s h w0 G0 G a w h0 hH hfr hd
  simp only [drawsOkS,Bool.and_eq_true] at hdr
  refine wp_seq (Code.wp_mono ?_ (ihx hdr.1 _ fr s h w0 G0 G a w h0 hH hfr hd))
  intro e a w q
  cases e with
  | normal =>
   obtain ⟨G',fr',s',q1,q2,q3,q4,q5⟩ := q
   exact ihy hdr.2 Q fr' s' q5 w0 G0 G' a w q1 q2 q3 q4
  | _=>exact q
 | cond c x y ihx ihy =>
  intro hdr Q fr s h w0 G0 G a w h0 hH hfr hd
  simp only [drawsOkS,Bool.and_eq_true] at hdr
  simp only [SW] at h
  split at h
  ·rename_i b hb
   have hr := evalO_rel hfr c
   rw [hb] at hr
   have hv := inv_bool hr
   split at h
   ·rename_i e; subst e; exact wp_cond_true hv (ihx hdr.1 Q fr s h w0 G0 G a w h0 hH hfr hd)
   ·rename_i e
    have : b = false := by cases b <;> simp_all
    subst this
    exact wp_cond_false hv (ihy hdr.2 Q fr s h w0 G0 G a w h0 hH hfr hd)
  ·exact h.elim
 | block id c ih =>
  intro hdr Q fr s h w0 G0 G a w h0 hH hfr hd
  refine wp_block (Code.wp_mono ?_ (ih hdr _ fr s h w0 G0 G a w h0 hH hfr hd))
  intro e a w q
  cases e with
  | exit j =>
   obtain ⟨G',fr',s',q1,q2,q3,q4,q5⟩ := q
   simp only [blockQ] at q5
   simp only [Exit.inBlock]
   split
   ·rename_i e; rw [if_pos e] at q5; exact ⟨G',fr',s',q1,q2,q3,q4,q5⟩
   ·rename_i e; rw [if_neg e] at q5; exact ⟨G',fr',s',q1,q2,q3,q4,q5⟩
  | _=>exact q
 | loop c ih =>
  intro hdr Q fr s h w0 G0 G a w h0 hH hfr hd
  obtain ⟨gh,fr0,s0,L,I,n,hgh,hI,hround⟩ := h
  obtain ⟨G1,g1,g2,g3⟩ := ghS_ok gh fr s G a fr0 s0 hgh hH hfr
  refine wp_loop_idx (fun m a w=>∃ G' fr1 s1,G1.le G' ∧ HR P w0 w G' s1 ∧ FR G' fr1 a ∧ a.defers = [] ∧ I m fr1 s1) (n := n) ⟨G1,maskF L fr0,s0,Cx.le.refl _,g2,FR_mask g3 L,hd,hI⟩ ?_
  rintro m a w ⟨G',fr1,s1,k1,k2,k3,k4,k5⟩
  obtain ⟨l1,l2,hbody⟩ := hround m fr1 s1 k5
  refine Code.wp_mono ?_ (ih hdr _ fr1 s1 hbody w0 G1 G' a w k1 k2 k3 k4)
  intro e a w q
  obtain ⟨G2,fr2,s2,q1,q2,q3,q4,q5⟩ := q
  cases e with
  | normal =>
   obtain ⟨q6,m',q7,q8⟩ := q5
   refine ⟨m',q7,G2.restr s0.obs.length s0.lns.length,_,_,le_restr (w' := w) g2 q1,HR_cut q2 q6,FR_cut q3 q6,q4,q8⟩
  | _=>exact ⟨G2,fr2,s2,(h0.trans g1).trans q1,q2,q3,q4,q5⟩
 | exit id=>intro _ Q fr s h w0 G0 G a w h0 hH hfr hd; exact wp_exit ⟨G,fr,s,h0,hH,hfr,hd,h⟩
 | ret=>intro _ Q fr s h w0 G0 G a w h0 hH hfr hd; exact wp_ret ⟨G,fr,s,h0,hH,hfr,hd,h⟩
 | label l=>intro _ Q fr s h w0 G0 G a w h0 hH hfr hd; exact wp_label ⟨G,fr,s,h0,hH,hfr,hd,h⟩
 | rangeFunc=>intro _ Q fr s h; exact h.elim
 | scope=>intro _ Q fr s h; exact h.elim
 | goto=>intro _ Q fr s h; exact h.elim
 | refuse=>intro _ Q fr s h; exact h.elim
def resOne {P : Program} (g : Pg P) (fr : Fr) (s : Sg) : ResultVar → Option V
 | .tmp t=>some (fr.getD t .undef)
 | .cell a ty=>match fr.getD a .undef with
  | .ptr k off=>match s.obs[k]? with | some cs=>partV P ty cs off | none=>none
  | _=>none
def resAll {P : Program} (g : Pg P) (fr : Fr) (s : Sg) : List ResultVar → Option (List V)
 | []=>some []
 | r :: rs=>match resOne g fr s r,resAll g fr s rs with | some x,some xs=>some (x :: xs) | _,_=>none
def resV {P : Program} (g : Pg P) (rs : List ResultVar) (fr : Fr) (s : Sg) : Option V :=
 match resAll g fr s rs with
 | some [x]=>some x
 | some xs=>some (.tuple xs)
 | none=>none
def retQ {P : Program} (g : Pg P) (rs : List ResultVar) (R : V → Sg → Prop) : SQ
 | .normal,fr,s=>match resV g rs fr s with | some y=>R y s | none=>False
 | .ret,fr,s=>match resV g rs fr s with | some y=>R y s | none=>False
 | _,_,_=>False
theorem resAll_ok {P : Program} {g : Pg P} {w0 w : World} {G : Cx} {s : Sg} {fr : Fr} {a : Act} (hH : HR P w0 w G s) (hfr : FR G fr a) : ∀ (rs : List ResultVar) (ys : List V),resAll g fr s rs = some ys →
  ∃ vs,(rs.mapM fun | .tmp t=>pure (a.tmps.getD t undef) | .cell ad ty=>do loadVar ty (← asAddr (a.tmps.getD ad undef)) : Sem (List Value)).run P w = .ok vs w ∧ rels G ys vs
 | [],ys,h=>by
  simp only [resAll] at h; injection h with h; subst h
  exact ⟨[],by simp,rels_nil G⟩
 | r :: rs,ys,h=>by
  unfold resAll at h
  split at h
  ·rename_i x xs hx hxs
   injection h with h; subst h
   obtain ⟨vs,v1,v2⟩ := resAll_ok hH hfr rs xs hxs
   have hone : ∃ v,((match r with | .tmp t=>pure (a.tmps.getD t undef) | .cell ad ty=>do loadVar ty (← asAddr (a.tmps.getD ad undef))) : Sem Value).run P w = .ok v w ∧ rel G x v := by
    cases r with
    | tmp t=>simp only [resOne] at hx; injection hx with hx; subst hx; exact ⟨_,rfl,hfr.2 t⟩
    | cell ad ty =>
     simp only [resOne] at hx
     split at hx
     ·rename_i k off hk
      split at hx
      ·rename_i cs hcs
       have hr := hfr.2 ad
       rw [hk] at hr
       obtain ⟨b,hb,hv⟩ := inv_ptr hr
       obtain ⟨b',us,tt,h1,h2,h3,h4,h5⟩ := hH.obl k cs hcs (hH.obm k b hb) (hH.obr k b hb)
       rw [hb] at h1; injection h1 with h1; subst h1
       obtain ⟨v,r1,r2⟩ := loadF_ok (P := P) (b := b) (o := 0) (w := w) hx h4 (fun i v hi=>by
        rw [cell_of_row w b _ _ _ _ h3]; simpa using hi)
       refine ⟨v,?_,r2⟩
       rw [Nat.zero_add] at r1
       simp only [hv,asAddr,Sem.run_bind,Sem.run_pure,Result.andThen_ok,r1]
      ·cases hx
     ·cases hx
   obtain ⟨v,o1,o2⟩ := hone
   refine ⟨v :: vs,?_,rels_cons o2 v2⟩
   rw [List.mapM_cons]
   simp only [Sem.run_bind]
   have o1' := o1
   cases r with
   | tmp t=>simp only at o1 ⊢; rw [o1]; simp only [Result.andThen_ok,Sem.run_bind,v1,Sem.run_pure]
   | cell ad ty=>simp only at o1 ⊢; rw [o1]; simp only [Result.andThen_ok,Sem.run_bind,v1,Sem.run_pure]
  ·cases h
theorem resV_ok {P : Program} {g : Pg P} {w0 w : World} {G : Cx} {s : Sg} {fr : Fr} {a : Act} {fn : Func} {y : V} (hH : HR P w0 w G s) (hfr : FR G fr a) (h : resV g fn.results.toList fr s = some y) : ∃ v,(results fn a.tmps).run P w = .ok v w ∧ rel G y v := by
 unfold resV at h
 cases hall : resAll g fr s fn.results.toList with
 | none=>rw [hall] at h; cases h
 | some ys =>
  rw [hall] at h
  obtain ⟨vs,v1,v2⟩ := resAll_ok hH hfr _ ys hall
  have hrun : ∀ f : Array Value → Sem Value,((do let vs ← fn.results.mapM (fun | .tmp t=>pure (a.tmps.getD t undef) | .cell ad ty=>do loadVar ty (← asAddr (a.tmps.getD ad undef))); f vs) : Sem Value).run P w = (f ⟨vs⟩).run P w := by
   intro f
   rw [Array.mapM_eq_mapM_toList]
   simp only [Sem.run_bind,Sem.run_map,v1,Result.andThen_ok]
  have hres : (results fn a.tmps).run P w = (pure (if h : (⟨vs⟩ : Array Value).size = 1 then (⟨vs⟩ : Array Value)[0] else .tuple ⟨vs⟩) : Sem Value).run P w := by
   unfold results
   exact hrun _
  rw [hres]
  have hl := v2.1
  cases ys with
  | nil =>
   simp only at h; injection h with h; subst h
   have : vs = [] := List.eq_nil_of_length_eq_zero hl.symm
   subst this
   exact ⟨_,by simp,.tuple [] [] rfl (fun i x v q=>by simp at q)⟩
  | cons x xs =>
   cases xs with
   | nil =>
    simp only at h; injection h with h; subst h
    cases vs with
    | nil=>simp at hl
    | cons u us =>
     have : us = [] := List.eq_nil_of_length_eq_zero (by simpa using hl.symm)
     subst this
     exact ⟨u,by simp,v2.2 0 x u rfl rfl⟩
   | cons x2 xs =>
    simp only at h; injection h with h; subst h
    refine ⟨.tuple ⟨vs⟩,?_,.tuple _ _ v2.1 v2.2⟩
    have : ¬ (⟨vs⟩ : Array Value).size = 1 := by simp only [List.size_toArray]; simp at hl; omega
    simp only [this,dite_false,Sem.run_pure]
theorem init_FR {G : Cx} {args : List V} {vs : List Value} (h : rels G args vs) (n : Nat) : FR G (args ++ List.replicate (n - args.length) .undef) { tmps := ⟨vs⟩ ++ Array.replicate (n - (⟨vs⟩ : Array Value).size) undef,defers := [] } := by
 refine ⟨by simp [h.1],fun t=>?_⟩
 rw [List.getD_eq_getElem?_getD]
 rcases Nat.lt_or_ge t args.length with q | q
 ·have q2 : t < vs.length := by rw [← h.1]; exact q
  rw [List.getElem?_append_left q,Array.getD_eq_getD_getElem?,Array.getElem?_append_left (by simpa using q2)]
  have := h.2 t args[t] vs[t] (List.getElem?_eq_getElem q) (List.getElem?_eq_getElem q2)
  simp [q,q2]
  exact this
 ·rw [List.getElem?_append_right q]
  cases hx : (List.replicate (n - args.length) V.undef)[t - args.length]? with
  | none=>exact .undef _
  | some x =>
   have := List.mem_of_getElem? hx
   have := List.eq_of_mem_replicate this
   subst this; exact .undef _
theorem kinds_cons {xs : List D} {k : SK} {l : List (Option SK)} (h : xs.map D.kind? = some k :: l) : ∃ x r,xs = x :: r ∧ x.kind? = some k ∧ r.map D.kind? = l := by
 cases xs with
 | nil=>simp at h
 | cons x r=>simp at h; exact ⟨x,r,rfl,h.1,h.2⟩
theorem kinds_nil {xs : List D} (h : xs.map D.kind? = []) : xs = [] := by simpa using h
theorem kind_int {x : D} {k : IntKind} (h : x.kind? = some (.int k)) : ∃ n,x = .int k n := by cases x <;> simp [D.kind?] at h; subst h; exact ⟨_,rfl⟩
end Go.Proofs.YtjgngikiglhleaaGreatDoor
