import Derived.Test.YtjgngikiglhleaaGreatDoorSs
namespace Go.Proofs.YtjgngikiglhleaaGreatDoor
open Go.RowKit
theorem SrcOk.row {w : World} {base : Nat} {F : Nat → Nat → Value → Prop} {e : TypeId} {sz : Nat} {ys : List (List D)} {v : Value} {xs : List Value} (ho : w.ownsRow base e sz v ys.length xs) (hr : relRow F sz ys xs) : SrcOk w F sz ys v := by
 refine ⟨fun hy=>?_,fun hy=>?_⟩
 ·obtain ⟨A,c,hv⟩ := own_slice ho
  rw [hy] at hv; exact ⟨A,c,hv⟩
 ·obtain ⟨b,cap,rfl,_⟩ := ho.form hy
  refine ⟨b,0,cap,xs,rfl,ho.1,ho.cells rfl,fun u hu=>?_,hr.2⟩
  obtain ⟨q,hq,rfl⟩ := List.getElem_of_mem hu
  have hl := ho.1
  have hz : 0 < sz := Nat.pos_of_ne_zero (fun h=>by subst h; omega)
  have hi : q / sz < ys.length := (Nat.div_lt_iff_lt_mul hz).2 (by omega)
  have he := List.getElem?_eq_getElem hi
  have hm : q % sz < (ys[q / sz]).length := by rw [hr.1 _ _ he]; exact Nat.mod_lt _ hz
  obtain ⟨u,u1,u2⟩ := hr.2 _ _ _ _ he (List.getElem?_eq_getElem hm)
  have e1 : q / sz * sz + q % sz = q := Nat.div_add_mod' q sz
  rw [e1,List.getElem?_eq_getElem hq] at u1
  injection u1 with u1
  rw [u1]; exact relD_one u2
section
variable {P : Program} {g : Pg P} {d : Option Tmp} {t ty : TypeId} {p : String} {af : Array Edge} {gd : Option (Nat × Bool)} {fr : Fr} {s : Sg} {R : V → Sg → Prop}
theorem lns_set {s : Sg} {k : Nat} {c0 c : TypeId × Nat} (h : s.lns[k]? = some c0) : upd (fun k=>s.lns[k]?) k c = fun j=>(s.lns.set k c)[j]? := by
 funext j
 have hk := getElem_lt h
 by_cases e : j = k
 ·subst e; rw [upd_same]; simp [hk]
 ·rw [upd_ne _ _ e,List.getElem?_set_ne (fun y=>e y.symm)]
theorem lns_push (s : Sg) (c : TypeId × Nat) : upd (fun k=>s.lns[k]?) s.lns.length c = fun k=>(s.lns ++ [c])[k]? := by
 funext j
 by_cases e : j = s.lns.length
 ·rw [e,upd_same]; simp
 ·rw [upd_ne _ _ e,List.getElem?_append]
  split
  ·rfl
  ·rename_i q
   rw [List.getElem?_eq_none (by omega),List.getElem?_eq_none (by simp; omega)]
end
mutual
def V.fz (k ver : Nat) (es : List (List D)) : V → V
 | .gr j n=>if j = k ∧ n = ver then .d (.list es) else .gr j n
 | .gs j n off len=>if j = k ∧ n = ver then (if off + len ≤ es.length then .d (.list ((es.drop off).take len)) else .undef) else .gs j n off len
 | .agg cs=>.agg (V.fzs k ver es cs)
 | .tuple cs=>.tuple (V.fzs k ver es cs)
 | x=>x
def V.fzs (k ver : Nat) (es : List (List D)) : List V → List V
 | []=>[]
 | x :: xs=>V.fz k ver es x :: V.fzs k ver es xs
end
theorem fzs_eq (k ver : Nat) (es : List (List D)) : ∀ cs : List V,V.fzs k ver es cs = cs.map (V.fz k ver es)
 | []=>by rw [V.fzs]; rfl
 | x :: xs=>by rw [V.fzs,fzs_eq k ver es xs]; rfl
theorem fz_rel {G G' : Cx} (hle : G.le G') {k ver : Nat} {es : List (List D)} (hg : ∀ v,rel G (.gr k ver) v → relD G'.F (.list es) v) (hg2 : ∀ off len v,off + len ≤ es.length → rel G (.gs k ver off len) v → relD G'.F (.list ((es.drop off).take len)) v) {x : V} {v : Value} (r : rel G x v) : rel G' (V.fz k ver es x) v := by
 induction r with
 | gr j n v h1 L hL hl =>
  rw [V.fz]
  split
  ·rename_i hjn
   obtain ⟨rfl,rfl⟩ := hjn
   exact .d (hg v (.gr _ _ v h1 L hL hl))
  ·exact rel_mono hle (.gr j n v h1 L hL hl)
 | agg cs vs hl _ ih =>
  rw [V.fz,fzs_eq]
  refine .agg _ vs (by simpa using hl) fun i x v h1 h2=>?_
  rw [List.getElem?_map] at h1
  cases hq : cs[i]? with
  | none=>rw [hq] at h1; cases h1
  | some y=>rw [hq] at h1; injection h1 with h1; subst h1; exact ih i y v hq h2
 | tuple cs vs hl _ ih =>
  rw [V.fz,fzs_eq]
  refine .tuple _ vs (by simpa using hl) fun i x v h1 h2=>?_
  rw [List.getElem?_map] at h1
  cases hq : cs[i]? with
  | none=>rw [hq] at h1; cases h1
  | some y=>rw [hq] at h1; injection h1 with h1; subst h1; exact ih i y v hq h2
 | undef v=>rw [V.fz]; all_goals first | exact .undef v | simp
 | d q=>rw [V.fz]; all_goals first | exact rel_mono hle (.d q) | simp
 | ptr a b c q=>rw [V.fz]; all_goals first | exact rel_mono hle (.ptr a b c q) | simp
 | iptr a b c o u h1 h2=>rw [V.fz]; all_goals first | exact rel_mono hle (.iptr a b c o u h1 h2) | simp
 | own t es v q L hL hs hl=>rw [V.fz]; all_goals first | exact rel_mono hle (.own t es v q L hL hs hl) | simp
 | full es A q=>rw [V.fz]; all_goals first | exact rel_mono hle (.full es A q) | simp
 | nil=>rw [V.fz]; all_goals first | exact .nil | simp
 | skip=>rw [V.fz]; all_goals first | exact .skip | simp
 | sl a b c d e q=>rw [V.fz]; all_goals first | exact rel_mono hle (.sl a b c d e q) | simp
 | fn f cs vs hl h _=>rw [V.fz]; all_goals first | exact rel_mono hle (.fn f cs vs hl h) | simp
 | mp a b q=>rw [V.fz]; all_goals first | exact rel_mono hle (.mp a b q) | simp
 | gp a b c d v h1 L hL hl=>rw [V.fz]; all_goals first | exact rel_mono hle (.gp a b c d v h1 L hL hl) | simp
 | adr a v b q1 q2 q3=>rw [V.fz]; all_goals first | exact rel_mono hle (.adr a v b q1 q2 q3) | simp
 | gs j n off len v h1 L hL hl =>
  rw [V.fz]
  split
  ·rename_i hjn
   obtain ⟨rfl,rfl⟩ := hjn
   split
   ·rename_i hle2
    exact .d (hg2 off len v hle2 (.gs _ _ _ _ v h1 L hL hl))
   ·exact .undef v
  ·exact rel_mono hle (.gs j n off len v h1 L hL hl)
theorem HR.frz {P : Program} {w0 w : World} {G : Cx} {s : Sg} (h : HR P w0 w G s) {k ver : Nat} {e : TypeId} {es : List (List D)} (ho : s.obs[k]? = some [.rowc e ver es]) {fr : Fr} {a : Act} (hfr : FR G fr a) :
    ∃ G',G.le G' ∧ HR P w0 w G' ⟨(s.obs.map (V.fzs k ver es)).set k [.rowc e (ver + 1) []],s.lns⟩ ∧ FR G' (fr.map (V.fz k ver es)) a := by
  cases hL : G.rv k with
  | none =>
    exfalso
    cases hm : G.mp k with
    | some b =>
      obtain ⟨_,_,_,_,_,h2,_⟩ := h.mpl k b hm
      have h2' : s.obs[k]? = _ := h2
      rw [ho] at h2'; cases h2'
    | none =>
      obtain ⟨b,vs,t,_,_,_,h4,_⟩ := h.obl k _ ho hm hL
      cases vs with
      | nil=>have := h4.1; simp at this
      | cons v us=>have := (rels_cons_inv h4).1; cases this
  | some L =>
    obtain ⟨e',es',xs,a1,a2,a3,a4,a5,a6⟩ := h.rvl k L hL
    have a1' : s.obs[k]? = some [.rowc e' L.n es'] := a1
    rw [ho] at a1'; injection a1' with a1'; injection a1' with a1' _; injection a1' with e1 e2 e3; subst e1; subst e2; subst e3
    let G' : Cx := { G with F := fun b o u=>G.F b o u ∨ (L.v.ownBlock = some b ∧ o < es.length * L.sz ∧ w.cell? ⟨b,o,none⟩ = some u),rv := upd G.rv k ⟨L.n + 1,L.sz,.slice none 0 0⟩ }
    have hrv : ∀ j L',G'.rv j = some L' → (j = k ∧ L' = ⟨L.n + 1,L.sz,.slice none 0 0⟩) ∨ (j ≠ k ∧ G.rv j = some L') := by
      intro j L' q
      have q' : upd G.rv k ⟨L.n + 1,L.sz,.slice none 0 0⟩ j = some L' := q
      by_cases e : j = k
      · subst e; rw [upd_same] at q'; injection q' with q'; exact .inl ⟨rfl,q'.symm⟩
      · rw [upd_ne _ _ e] at q'; exact .inr ⟨e,q'⟩
    have hle : G.le G' := by
      refine ⟨rfl,fun _ _ _ q=>.inl q,fun _ _ q=>q,fun _ L q=>⟨L,q,rfl,.inl rfl⟩,fun _ _ q=>q,fun j L' q=>?_,fun _ _ q=>q⟩
      by_cases ej : j = k
      · subst ej
        rw [hL] at q; injection q with q; subst q
        exact ⟨_,upd_same _ _ _,rfl,.inr (by show L.n < L.n + 1; omega)⟩
      · exact ⟨L',(by show upd G.rv k _ j = _; rw [upd_ne _ _ ej]; exact q),rfl,.inl rfl⟩
    have hgs : ∀ off len v,off + len ≤ es.length → rel G (.gs k L.n off len) v → relD G'.F (.list ((es.drop off).take len)) v := by
      intro off len v hlen r
      cases r with
      | gs _ _ _ _ _ h1 L2 hL2 hl =>
        rw [hL] at hL2; injection hL2 with hL2; subst hL2
        have hel : ((es.drop off).take len).length = len := by simp; omega
        by_cases h0 : len = 0
        · subst h0
          rw [List.take_zero]
          rcases hl with ⟨_,⟨b,c,z1,z2,z3⟩ | ⟨z1,A,c,z2⟩⟩ | q
          · rw [z2]; exact .nil _ _
          · rw [z2]; exact .nil _ _
          · omega
        · rcases hl with ⟨_,⟨b,c,z1,z2,z3⟩ | ⟨z1,_⟩⟩ | q
          · have hcell : ∀ q u, xs[q]? = some u → w.cell? ⟨b, q, none⟩ = some u := by
              intro q u hu
              have := a4.cells (g := b) z1 q u hu
              rw [Addr.add_lit,Nat.zero_add] at this
              exact this
            have hat : ∀ (i : Nat) (c' : List D),((es.drop off).take len)[i]? = some c' → i < len ∧ es[off + i]? = some c' := by
              intro i c' hc
              have hi := getElem_lt hc
              rw [hel] at hi
              rw [List.getElem?_take,if_pos hi,List.getElem?_drop] at hc
              exact ⟨hi,hc⟩
            rw [z2]
            have key := relD.list (F := G'.F) ((es.drop off).take len) b (off * L.sz) c L.sz (fun i j=>(xs[(off + i) * L.sz + j]?).getD Go.undef) (by omega) (by omega) (fun i c' hc=>a5.1 _ _ (hat i c' hc).2) (fun i j c' x hc hx=>by
              obtain ⟨hi,hc2⟩ := hat i c' hc
              obtain ⟨u,u1,u2⟩ := a5.2 (off + i) j c' x hc2 hx
              rw [u1]
              have hj : j < L.sz := by have := getElem_lt hx; have := a5.1 _ _ hc2; omega
              have h2 : (off + i + 1) * L.sz ≤ es.length * L.sz := Nat.mul_le_mul_right _ (by omega)
              rw [Nat.add_mul,Nat.one_mul] at h2
              refine .inr ⟨z1,?_,?_⟩
              · rw [← Nat.add_mul]; omega
              · rw [← Nat.add_mul]; exact hcell _ _ u1) (fun i j c' x hc hx=>by
              obtain ⟨u,u1,u2⟩ := a5.2 (off + i) j c' x (hat i c' hc).2 hx
              rw [u1]
              exact relD_mono hle.F u2)
            rw [hel] at key
            exact key
          · omega
          · omega
    have hgr : ∀ v,rel G (.gr k L.n) v → relD G'.F (.list es) v := by
      intro v hv0
      obtain ⟨L2,xs2,b1,b2,b3,b4,b5,b6⟩ := inv_gr h hv0 ho
      rw [hL] at b1; injection b1 with b1; subst b1
      by_cases h0 : es.length = 0
      · have : es = [] := List.eq_nil_of_length_eq_zero h0
        subst this
        obtain ⟨A,c,hv⟩ := own_slice b5
        rw [hv]; exact .nil _ _
      · obtain ⟨b,cap,hv,_⟩ := b5.form (by omega)
        have hcap : es.length ≤ cap := by
          rcases b5.2 with ⟨z1,z2⟩ | ⟨g',cap',cur,z1,_,_,z3,_⟩
          · rw [hv] at z1; cases z1
          · rw [hv] at z1; injection z1 with _ _ z1; omega
        have hob : L.v.ownBlock = some b := by rw [← b2,hv]; rfl
        have hcell : ∀ q u,xs2[q]? = some u → w.cell? ⟨b,q,none⟩ = some u := by
          intro q u hu
          have := b5.cells (g := b) (by rw [b2]; exact hob) q u hu
          rw [Addr.add_lit,Nat.zero_add] at this
          exact this
        rw [hv]
        refine .list es b 0 cap L.sz (fun i j=>(xs2[i * L.sz + j]?).getD Go.undef) (by omega) hcap b6.1 (fun i j c x hc hx=>?_) (fun i j c x hc hx=>?_)
        · obtain ⟨u,u1,u2⟩ := b6.2 i j c x hc hx
          rw [u1,Nat.zero_add]
          refine .inr ⟨hob,?_,hcell _ _ u1⟩
          have := getElem_lt u1
          rw [b5.1] at this
          exact this
        · obtain ⟨u,u1,u2⟩ := b6.2 i j c x hc hx
          rw [u1]
          exact relD_mono (fun _ _ _ q=>.inl q) u2
    have hmap : ∀ (j : Nat) (cs : List V),(s.obs.map (V.fzs k L.n es))[j]? = some cs → ∃ cs0,s.obs[j]? = some cs0 ∧ cs = cs0.map (V.fz k L.n es) := by
      intro j cs q
      rw [List.getElem?_map] at q
      cases hq : s.obs[j]? with
      | none=>rw [hq] at q; cases q
      | some cs0=>rw [hq] at q; injection q with q; exact ⟨cs0,rfl,by rw [← q,fzs_eq]⟩
    have hkeep : ∀ (j : Nat) (c : V),s.obs[j]? = some [c] → V.fz k L.n es c = c → (s.obs.map (V.fzs k L.n es))[j]? = some [c] := by
      intro j c q hc
      rw [List.getElem?_map,q]
      simp only [Option.map_some,fzs_eq,List.map_cons,List.map_nil,hc]
    have ho2 : (s.obs.map (V.fzs k L.n es))[k]? = some [.rowc e L.n es] := hkeep k _ ho (by rw [V.fz] <;> simp)
    have hset := sg_set (s := ⟨s.obs.map (V.fzs k L.n es),s.lns⟩) (c := [.rowc e (L.n + 1) []]) ho2
    have hHR : HRp P w0 w G' (upd (fun j=>(s.obs.map (V.fzs k L.n es))[j]?) k [.rowc e (L.n + 1) []]) (fun t=>s.lns[t]?) := by
      refine ⟨h.kp,?_,?_,?_,?_,h.obi,h.lvd,?_,h.lvi,h.gb.mono fun _ _ _ q=>.inl q,h.obm,?_,h.mpi,?_,?_,?_,h.tgs⟩
      · rintro b o u (q | ⟨_,_,q⟩)
        · exact h.fs b o u q
        · exact ⟨cell_lt q,q⟩
      · rintro b o u (q | ⟨q,_,_⟩)
        · exact h.fb b o u q
        · exact .inr (a4.lt b q).1
      · intro j b q
        have e' : j ≠ k := fun e'=>by rw [e'] at q; rw [h.obr k b q] at hL; cases hL
        rw [upd_ne _ _ e']
        have := h.obd j b q
        intro hn
        apply this
        rw [List.getElem?_map] at hn
        cases hq : s.obs[j]? with
        | none=>rfl
        | some cs=>rw [hq] at hn; cases hn
      · intro j cs q hm hq
        have e' : j ≠ k := fun e'=>by
          have : upd G.rv k ⟨L.n + 1,L.sz,.slice none 0 0⟩ j = none := hq
          rw [e',upd_same] at this; cases this
        rw [upd_ne _ _ e'] at q
        have hq' : G.rv j = none := by
          have : upd G.rv k ⟨L.n + 1,L.sz,.slice none 0 0⟩ j = none := hq
          rwa [upd_ne _ _ e'] at this
        obtain ⟨cs0,q0,rfl⟩ := hmap j cs q
        obtain ⟨b,vs,t,h1,h2,h3,h4,h5⟩ := h.obl j cs0 q0 hm hq'
        refine ⟨b,vs,t,h1,h2,h3,⟨by rw [List.length_map]; exact h4.1,fun i x v i1 i2=>?_⟩,?_⟩
        · rw [List.getElem?_map] at i1
          cases hy : cs0[i]? with
          | none=>rw [hy] at i1; cases i1
          | some y=>rw [hy] at i1; injection i1 with i1; subst i1; exact fz_rel hle hgr hgs (h4.2 i y v hy i2)
        rintro o u (q | ⟨q,_,_⟩)
        · exact h5 o u q
        · exact (a6 b q).1 j h1
      · intro t e n q
        obtain ⟨v,xs',h1,h2,h3⟩ := h.lvl t e n q
        refine ⟨v,xs',h1,h2,fun b hb=>⟨(h3 b hb).1,?_⟩⟩
        rintro o u (q | ⟨q,_,_⟩)
        · exact (h3 b hb).2 o u q
        · exact absurd hb ((a6 b q).2.2 t _ h1)
      · intro j b q
        obtain ⟨h1,es',n',ik',kvs',h2,h3,h4⟩ := h.mpl j b q
        have hj : j ≠ k := fun e'=>by rw [e'] at h2; have h2' : s.obs[k]? = _ := h2; rw [ho] at h2'; cases h2'
        exact ⟨h1,es',n',ik',kvs',by rw [upd_ne _ _ hj]; exact hkeep j _ h2 (by rw [V.fz] <;> simp),h3,relM_mono (fun _ _ _ q=>.inl q) h4⟩
      · intro j b q
        have e' : j ≠ k := fun e'=>by rw [e'] at q; rw [h.obr k b q] at hL; cases hL
        show upd G.rv k _ j = none
        rw [upd_ne _ _ e']; exact h.obr j b q
      · intro j L' q
        rcases hrv j L' q with ⟨rfl,rfl⟩ | ⟨ej,q⟩
        · exact ⟨e,[],[],upd_same _ _ _,a2,trivial,World.ownsRow_nil _ _ _ _,⟨fun i e h=>by simp at h,fun i j e x h=>by simp at h⟩,fun b hb=>by simp [Value.ownBlock] at hb⟩
        · obtain ⟨e2,es2,xs2,h1,h2,h3,h4,h5,h6⟩ := h.rvl j L' q
          refine ⟨e2,es2,xs2,by rw [upd_ne _ _ ej]; exact hkeep j _ h1 (by rw [V.fz] <;> simp),h2,h3,h4,relRow_mono (fun _ _ _ q=>.inl q) h5,fun b hb=>⟨(h6 b hb).1,?_,(h6 b hb).2.2⟩⟩
          rintro o u (q' | ⟨q',_,_⟩)
          · exact (h6 b hb).2.1 o u q'
          · exact ej (h.rvi j k L' L b q hL hb q')
      · intro j j' L1 L2 b q q' h1 h2
        rcases hrv j L1 q with ⟨_,rfl⟩ | ⟨e1,q1⟩
        · simp [Value.ownBlock] at h1
        · rcases hrv j' L2 q' with ⟨_,rfl⟩ | ⟨e2,q2⟩
          · simp [Value.ownBlock] at h2
          · exact h.rvi j j' L1 L2 b q1 q2 h1 h2
    rw [hset] at hHR
    refine ⟨G',hle,hHR,by rw [List.length_map]; exact hfr.1,fun t=>?_⟩
    have ht := hfr.2 t
    rw [List.getD_eq_getElem?_getD] at ht ⊢
    rw [List.getElem?_map]
    cases hq : fr[t]? with
    | none=>exact .undef _
    | some x =>
      rw [hq] at ht
      simp only [Option.map_some,Option.getD_some] at ht ⊢
      exact fz_rel hle hgr hgs ht
theorem SWs.frz {P : Program} {g : Pg P} {Q : SQ} {fr : Fr} {s : Sg} {c : Code} (k : Nat) {ver : Nat} {e : TypeId} {es : List (List D)} (ho : s.obs[k]? = some [.rowc e ver es]) (h : SWs g c Q (fr.map (V.fz k ver es)) ⟨(s.obs.map (V.fzs k ver es)).set k [.rowc e (ver + 1) []],s.lns⟩) : SWs g c Q fr s := by
 intro hdr w0 G0 G a w h0 hH hfr hd
 obtain ⟨G',g1,g2,g3⟩ := HR.frz hH ho hfr
 exact h hdr w0 G0 G' a w (h0.trans g1) g2 g3 hd
end Go.Proofs.YtjgngikiglhleaaGreatDoor
