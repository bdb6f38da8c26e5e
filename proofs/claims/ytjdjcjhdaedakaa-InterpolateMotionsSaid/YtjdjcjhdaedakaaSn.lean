/-
  A region that draws its order: the law.
-/
import Derived.Test.YtjdjcjhdaedakaaSm
namespace Go.Proofs.Ytjdjcjhdaedakaa
open Go.RowKit
set_option linter.unusedVariables false
set_option linter.unusedSimpArgs false

theorem pair_app {ops : Array Oper} (hd : drawOk ops = true) {i j : Nat} {x y : Oper} (hx : ops[i]? = some x) (hy : ops[j]? = some y) (hij : i < j) : ¬ (opApp x.op = true ∧ opApp y.op = true) := by
  have h := drawOk_pair hd hx hy hij
  unfold pairOk at h
  simp only [Bool.and_eq_true] at h
  have h2 := h.1.1.2
  intro q
  rw [q.1, q.2] at h2
  simp at h2
theorem pair_store {ops : Array Oper} (hd : drawOk ops = true) {i j : Nat} {x y : Oper} (hx : ops[i]? = some x) (hy : ops[j]? = some y) (hij : i < j) (hs : opStore y.op = true) (ht : opTouch x.op = true) : i ∈ (clos ops.toList []).getD j [] ∧ opStore x.op = false := by
  have h := drawOk_pair hd hx hy hij
  unfold pairOk at h
  simp only [Bool.and_eq_true] at h
  have h2 := h.1.2
  rw [hs, ht] at h2
  simpa using h2
theorem pair_after {ops : Array Oper} (hd : drawOk ops = true) {i j : Nat} {x y : Oper} (hx : ops[i]? = some x) (hy : ops[j]? = some y) (hij : i < j) (hs : opStore x.op = true) : opTouch y.op = false := by
  have h := drawOk_pair hd hx hy hij
  unfold pairOk at h
  simp only [Bool.and_eq_true] at h
  have h2 := h.2
  rw [hs] at h2
  simpa using h2

theorem reg_drawn {P : Program} {g : Pg P} {ops : Array Oper} {frs : Nat → Fr} {sgs : Nat → Sg} {res : Nat → V} {eff : Nat → Ef} (ht : Tr g ops 0 frs sgs res eff) (hd : drawOk ops = true) {w0 : World} {G0 : Cx} {Q : Exit → Act → World → Prop} {K : Fr → Sg → Prop}
    (hQ : ∀ a w, Post g w0 G0 K a w → Q .normal a w) (hK : K (frs ops.size) (sgs ops.size)) (q : Nat) (hq1 : q ≤ ops.size) (hq2 : ∀ i, i < q → (eff i).isStore = false) (hq3 : q < ops.size → (eff q).isStore = true) :
    ∀ (fuel : Nat) (L : Array Bool) (G : Cx) (a : Act) (w : World), L.size = ops.size → (∀ i o, ops[i]? = some o → L.getD i false = true → ∀ p ∈ preds o, L.getD p false = true) → cnt L ops.size ≤ fuel → G0.le G → HRp P w0 w G (obsL ops.size q sgs eff L) (lnsL ops.size sgs eff L) → FR G (cfL ops frs res L) a → a.defers = [] →
    wpAny P .any ops Q fuel L a w := by
  -- what lies behind the store does not touch memory
  have hqo : ∀ o, ops[q]? = some o → opStore o.op = true := fun o ho => (ht.kind q o ho).2.1 (hq3 (ops_lt ho))
  have hafter : ∀ i o, q < i → ops[i]? = some o → opTouch o.op = false := by
    intro i o hi ho
    have hlt := ops_lt ho
    obtain ⟨x, hx⟩ : ∃ x, ops[q]? = some x := ⟨ops[q], Array.getElem?_eq_getElem (by omega)⟩
    exact pair_after hd hx ho hi (hqo x hx)
  have hnot : ∀ i o, ops[i]? = some o → opTouch o.op = false → (eff i).isAlloc = false ∧ (eff i).isStore = false ∧ (eff i).isApp = false := by
    intro i o ho hto
    have hk := ht.kind i o ho
    unfold opTouch at hto
    simp only [Bool.or_eq_false_iff] at hto
    refine ⟨?_, ?_, ?_⟩
    · cases h : (eff i).isAlloc with | false => rfl | true => have := hk.1 h; rw [hto.1.1.2] at this; cases this
    · cases h : (eff i).isStore with | false => rfl | true => have := hk.2.1 h; rw [hto.2] at this; cases this
    · cases h : (eff i).isApp with | false => rfl | true => have := hk.2.2 h; rw [hto.1.2] at this; cases this
  have hop : ∀ i, i < ops.size → ∃ o, ops[i]? = some o := fun i hi => ⟨ops[i], Array.getElem?_eq_getElem hi⟩
  have hstq : ∀ i, i < ops.size → (eff i).isStore = true → i = q := by
    intro i hi h
    rcases Nat.lt_trichotomy i q with a | a | a
    · rw [hq2 i a] at h; cases h
    · exact a
    · obtain ⟨o, ho⟩ := hop i hi
      rw [(hnot i o ho (hafter i o a ho)).2.1] at h; cases h
  have happ : ∀ i j, i < ops.size → j < ops.size → (eff i).isApp = true → (eff j).isApp = true → i = j := by
    intro i j hi hj h1 h2
    obtain ⟨x, hx⟩ := hop i hi
    obtain ⟨y, hy⟩ := hop j hj
    have k1 := (ht.kind i x hx).2.2 h1
    have k2 := (ht.kind j y hy).2.2 h2
    rcases Nat.lt_trichotomy i j with a | a | a
    · exact absurd ⟨k1, k2⟩ (pair_app hd hx hy a)
    · exact a
    · exact absurd ⟨k2, k1⟩ (pair_app hd hy hx a)
  -- the end
  have hend : ∀ (L : Array Bool) (G : Cx) (a : Act) (w : World), (∀ i, i < ops.size → L.getD i false = true) → G0.le G → HRp P w0 w G (obsL ops.size q sgs eff L) (lnsL ops.size sgs eff L) → FR G (cfL ops frs res L) a → a.defers = [] → Q .normal a w := by
    intro L G a w hall h0 hH hfr hdf
    refine hQ a w ⟨G, frs ops.size, sgs ops.size, h0, ?_, ?_, hdf, hK⟩
    · have e1 : obsL ops.size q sgs eff L = obsOf (sgs ops.size) := by
        funext k
        unfold obsL obsOf
        rcases Nat.lt_or_ge q ops.size with hlt | hge
        · rw [if_pos (hall q hlt)]
        · have : q = ops.size := by omega
          subst this
          split
          · rfl
          · split
            · rfl
            · rename_i hl
              cases hk : (sgs ops.size).obs[k]? with
              | none => rfl
              | some cs =>
                exfalso
                apply hl
                rw [live_iff]
                rcases ht.tok_ex ops.size k (Nat.le_refl _) (getElem_lt hk) with h | ⟨j, h1, h2, h3⟩
                · exact .inl h
                · exact .inr ⟨j, h1, hall j h1, h2, h3⟩
      have e2 : lnsL ops.size sgs eff L = lnsOf (sgs ops.size) := by
        unfold lnsL
        split
        · rfl
        · rename_i hl
          have : (sgs ops.size).lns = (sgs 0).lns := ht.lnsq 0 ops.size (Nat.zero_le _) (Nat.le_refl _) (fun m _ hm => by
            cases h : (eff m).isApp with
            | false => rfl
            | true =>
              exfalso; apply hl
              rw [List.any_eq_true]
              refine ⟨m, List.mem_range.2 hm, ?_⟩
              rw [hall m hm, h]; rfl)
          unfold lnsOf; rw [this]
      rw [e1, e2] at hH
      exact hH
    · have : cfL ops frs res L = frs ops.size := by
        apply List.ext_getElem?
        intro t
        have hl1 := cf_len ops frs res L
        have hl2 := ht.len ops.size (Nat.le_refl _)
        rcases Nat.lt_or_ge t (frs 0).length with z | z
        · have a1 : (cfL ops frs res L)[t]? = some ((cfL ops frs res L).getD t .undef) := by
            rw [List.getD_eq_getElem?_getD, List.getElem?_eq_getElem (by omega)]; rfl
          have a2 : (frs ops.size)[t]? = some ((frs ops.size).getD t .undef) := by
            rw [List.getD_eq_getElem?_getD, List.getElem?_eq_getElem (by omega)]; rfl
          rw [a1, a2, cf_getD, ht.at ops.size (Nat.le_refl _) t]
          unfold valAt
          rw [lw_ext (q := fun _ => true) ops.size (fun j hj _ => ⟨fun _ => rfl, fun _ => hall j hj⟩)]
        · rw [List.getElem?_eq_none (by omega), List.getElem?_eq_none (by omega)]
      rw [← this]; exact hfr
  intro fuel
  induction fuel with
  | zero =>
    intro L G a w hs hcl hc h0 hH hfr hdf
    have hall := cnt_zero L ops.size (by omega)
    refine ⟨?_, hend L G a w hall h0 hH hfr hdf⟩
    cases hr : Region.ready .any ops L with
    | nil => rfl
    | cons j js =>
      exfalso
      have hj : j ∈ Region.ready .any ops L := by rw [hr]; simp
      obtain ⟨h1, o, ho, _⟩ := mem_ready.1 hj
      have := hall j (ops_lt ho)
      rw [Array.getD_eq_getD_getElem?, Array.getElem?_eq_getElem (by have := ops_lt ho; omega)] at h1 this
      simp at h1 this
      rw [this] at h1; cases h1
  | succ fuel ih =>
    intro L G a w hs hcl hc h0 hH hfr hdf
    refine ⟨fun hr => ?_, fun i hi => ?_⟩
    · refine hend L G a w ?_ h0 hH hfr hdf
      intro i
      induction i using Nat.strongRecOn with
      | _ i ihi =>
        intro hlt
        cases hb : L.getD i false with
        | true => rfl
        | false =>
          exfalso
          obtain ⟨o, ho⟩ := hop i hlt
          have : i ∈ Region.ready .any ops L := by
            rw [mem_ready]
            refine ⟨?_, o, ho, fun e he hbd => ?_⟩
            · rw [Array.getD_eq_getD_getElem?, Array.getElem?_eq_getElem (by omega)] at hb ⊢
              simpa using hb
            · have hp : e.on ∈ preds o := by
                unfold preds
                exact List.mem_map.2 ⟨e, List.mem_filter.2 ⟨by simpa using he, hbd⟩, rfl⟩
              have := drawOk_pred hd ho hp
              exact ihi e.on this (by omega)
          rw [hr] at this; simp at this
    · obtain ⟨h1, o, ho, hpr⟩ := mem_ready.1 hi
      have hlt := ops_lt ho
      have hu : L.getD i false = false := by
        rw [Array.getD_eq_getD_getElem?, Array.getElem?_eq_getElem (by omega)] at h1 ⊢
        simpa using h1
      have hp : ∀ p ∈ preds o, L.getD p false = true := by
        intro p hpp
        obtain ⟨e, he, rfl⟩ := List.mem_map.1 hpp
        obtain ⟨he1, he2⟩ := List.mem_filter.1 he
        exact hpr e (by simpa using he1) he2
      have hset : ∀ j, (L.setIfInBounds i true).getD j false = (if j = i then true else L.getD j false) := fun j => getD_set L i j (by omega)
      have hcf := cf_put (res := res) (frs := frs) hd hs hcl ho hu
      -- a store that is listed has all that touches memory ahead of it
      have hql : L.getD q false = true → opTouch o.op = true → False := by
        intro hqL htt
        have hqs : q < ops.size := by
          rcases Nat.lt_or_ge q ops.size with z | z
          · exact z
          · rw [Array.getD_eq_getD_getElem?, Array.getElem?_eq_none (by omega)] at hqL; simp at hqL
        obtain ⟨x, hx⟩ := hop q hqs
        rcases Nat.lt_trichotomy i q with z | z | z
        · have := (pair_store hd ho hx z (hqo x hx) htt).1
          have := clos_lis hcl q i this hqL
          rw [hu] at this; cases this
        · subst z; rw [hu] at hqL; cases hqL
        · rw [hafter i o z ho] at htt; cases htt
      -- the next state
      have hnext : ∀ (G' : Cx) (a' : Act) (w' : World), G.le G' → HRp P w0 w' G' ((eff i).obs (obsL ops.size q sgs eff L) (sgs i).obs.length) ((eff i).lns (lnsL ops.size sgs eff L)) → FR G' (putF (cfL ops frs res L) o.dst (res i)) a' → a'.defers = [] → wpAny P .any ops Q fuel (L.setIfInBounds i true) a' w' := by
        intro G' a' w' hle hH' hfr' hdf'
        refine ih (L.setIfInBounds i true) G' a' w' (by simpa using hs) ?_ ?_ (h0.trans hle) ?_ (by rw [hcf]; exact hfr') hdf'
        · intro j x hx hj p hpp
          rw [hset] at hj ⊢
          split
          · rfl
          · by_cases ej : j = i
            · subst ej
              rw [ho] at hx; injection hx with hx; subst hx
              exact hp p hpp
            · rw [if_neg ej] at hj
              exact hcl j x hx hj p hpp
        · have := (cnt_set L i (by omega) hu ops.size).1 hlt
          omega
        · have e1 : obsL ops.size q sgs eff (L.setIfInBounds i true) = (eff i).obs (obsL ops.size q sgs eff L) (sgs i).obs.length := by
            cases he : eff i with
            | none =>
              have hqi : q ≠ i := fun e => by
                have := hq3 (by omega)
                rw [e, he] at this; cases this
              funext k
              simp only [Ef.obs]
              unfold obsL
              rw [hset, if_neg hqi]
              have : liveL ops.size sgs eff (L.setIfInBounds i true) k = liveL ops.size sgs eff L k := by
                rw [Bool.eq_iff_iff, live_iff, live_iff]
                refine or_congr Iff.rfl ⟨fun ⟨j, h1, h2, h3, h4⟩ => ?_, fun ⟨j, h1, h2, h3, h4⟩ => ?_⟩
                · rw [hset] at h2
                  by_cases ej : j = i
                  · subst ej; rw [he] at h3; cases h3
                  · rw [if_neg ej] at h2; exact ⟨j, h1, h2, h3, h4⟩
                · exact ⟨j, h1, by rw [hset]; split; rfl; exact h2, h3, h4⟩
              rw [this]
            | alloc cs =>
              have hkind := (ht.kind i o ho).1 (by rw [he]; rfl)
              have htt : opTouch o.op = true := by unfold opTouch; rw [hkind]; simp
              have hqL : L.getD q false = false := by
                cases h : L.getD q false with
                | false => rfl
                | true => exact (hql h htt).elim
              have hqi : q ≠ i := fun e => by
                have := hq3 (by omega)
                rw [e, he] at this; cases this
              have hiq : i < q := by
                rcases Nat.lt_trichotomy i q with z | z | z
                · exact z
                · exact absurd z.symm hqi
                · rw [hafter i o z ho] at htt; cases htt
              funext k
              simp only [Ef.obs]
              have hcs : (sgs q).obs[(sgs i).obs.length]? = some cs := by
                rw [ht.pref (i + 1) q (by omega) hq1 (fun m a b => hq2 m b) _ (by have := (ht.grow i hlt).2.1 (by rw [he]; rfl); omega)]
                rw [ht.sg i o (Nat.zero_le _) ho, he]
                simp [Ef.sg]
              by_cases ek : k = (sgs i).obs.length
              · subst ek
                rw [upd_same]
                unfold obsL
                rw [hset, if_neg hqi, hqL]
                rw [if_neg (by simp), if_pos (live_iff.2 (.inr ⟨i, hlt, by rw [hset, if_pos rfl], by rw [he]; rfl, rfl⟩))]
                exact hcs
              · rw [upd_ne _ _ ek]
                unfold obsL
                rw [hset, if_neg hqi, hqL]
                have : liveL ops.size sgs eff (L.setIfInBounds i true) k = liveL ops.size sgs eff L k := by
                  rw [Bool.eq_iff_iff, live_iff, live_iff]
                  refine or_congr Iff.rfl ⟨fun ⟨j, h1, h2, h3, h4⟩ => ?_, fun ⟨j, h1, h2, h3, h4⟩ => ?_⟩
                  · rw [hset] at h2
                    by_cases ej : j = i
                    · subst ej; exact absurd h4.symm ek
                    · rw [if_neg ej] at h2; exact ⟨j, h1, h2, h3, h4⟩
                  · exact ⟨j, h1, by rw [hset]; split; rfl; exact h2, h3, h4⟩
                rw [this]
            | app t e n =>
              have hqi : q ≠ i := fun e' => by
                have := hq3 (by omega)
                rw [e', he] at this; cases this
              funext k
              simp only [Ef.obs]
              unfold obsL
              rw [hset, if_neg hqi]
              have : liveL ops.size sgs eff (L.setIfInBounds i true) k = liveL ops.size sgs eff L k := by
                rw [Bool.eq_iff_iff, live_iff, live_iff]
                refine or_congr Iff.rfl ⟨fun ⟨j, h1, h2, h3, h4⟩ => ?_, fun ⟨j, h1, h2, h3, h4⟩ => ?_⟩
                · rw [hset] at h2
                  by_cases ej : j = i
                  · subst ej; rw [he] at h3; cases h3
                  · rw [if_neg ej] at h2; exact ⟨j, h1, h2, h3, h4⟩
                · exact ⟨j, h1, by rw [hset]; split; rfl; exact h2, h3, h4⟩
              rw [this]
            | store j cs =>
              have hiq := hstq i hlt (by rw [he]; rfl)
              have hfit : (eff i).fits (sgs i) := by
                rcases ht.one i o (Nat.zero_le _) ho with ⟨_, _, h⟩ | ⟨_, p, args, tys, fid, xs, _, _, _, h⟩ | ⟨_, h⟩
                · rw [he] at h; cases h
                · rw [he] at h; cases h
                · exact stepS_fits h
              have hall : ∀ k, obsL ops.size q sgs eff L k = (sgs q).obs[k]? := by
                intro k
                unfold obsL
                rw [← hiq, hu, if_neg (by simp)]
                split
                · rfl
                · rename_i hl
                  cases hk : (sgs i).obs[k]? with
                  | none => rfl
                  | some c =>
                    exfalso; apply hl
                    rw [live_iff]
                    rcases ht.tok_ex i k (by omega) (getElem_lt hk) with h | ⟨m, m1, m2, m3⟩
                    · exact .inl h
                    · obtain ⟨x, hx⟩ := hop m (by omega)
                      have kx := (ht.kind m x hx).1 m2
                      have := (pair_store hd hx ho m1 ((ht.kind i o ho).2.1 (by rw [he]; rfl)) (by unfold opTouch; rw [kx]; simp)).1
                      exact .inr ⟨m, by omega, clos_ready hcl ho hp m this (by omega), m2, m3⟩
              have e0 : obsL ops.size q sgs eff L = obsOf (sgs i) := by funext k; rw [hall k, ← hiq]; rfl
              rw [← he, e0]
              have hsg := sg_obs (eff i) (sgs i) hfit
              have : (eff i).obs (obsOf (sgs i)) (sgs i).obs.length = obsOf (sgs (i + 1)) := by
                rw [ht.sg i o (Nat.zero_le _) ho]
                exact hsg.symm
              rw [this]
              funext k
              unfold obsL obsOf
              rw [hset, if_pos hiq.symm, if_pos rfl]
              have hlater : ∀ m, i + 1 ≤ m → m < ops.size → (eff m).isAlloc = false ∧ (eff m).isStore = false ∧ (eff m).isApp = false := by
                intro m h1 h2
                obtain ⟨x, hx⟩ := hop m h2
                exact hnot m x hx (hafter m x (by omega) hx)
              have hlen : ∀ m, i + 1 ≤ m → m ≤ ops.size → (sgs m).obs.length = (sgs (i + 1)).obs.length := by
                intro m h1 h2
                induction m with
                | zero => omega
                | succ m ihm =>
                  rcases Nat.eq_or_lt_of_le h1 with z | z
                  · rw [z]
                  · rw [(ht.grow m (by omega)).2.2.1 (hlater m (by omega) (by omega)).1]
                    exact ihm (by omega) (by omega)
              rcases Nat.lt_or_ge k (sgs (i + 1)).obs.length with z | z
              · exact ht.pref (i + 1) ops.size (by omega) (Nat.le_refl _) (fun m h1 h2 => (hlater m h1 h2).2.1) k z
              · rw [List.getElem?_eq_none z, List.getElem?_eq_none (by rw [hlen ops.size (by omega) (Nat.le_refl _)]; exact z)]
          have e2 : lnsL ops.size sgs eff (L.setIfInBounds i true) = (eff i).lns (lnsL ops.size sgs eff L) := by
            by_cases hap : (eff i).isApp = true
            · have hno : (List.range ops.size).any (fun i => L.getD i false && (eff i).isApp) = false := by
                rw [Bool.eq_false_iff]
                intro h
                rw [List.any_eq_true] at h
                obtain ⟨j, hj, hj2⟩ := h
                simp only [Bool.and_eq_true] at hj2
                have := happ i j hlt (List.mem_range.1 hj) hap hj2.2
                subst this
                rw [hu] at hj2; cases hj2.1
              have hyes : (List.range ops.size).any (fun j => (L.setIfInBounds i true).getD j false && (eff j).isApp) = true := by
                rw [List.any_eq_true]
                exact ⟨i, List.mem_range.2 hlt, by rw [hset, if_pos rfl, hap]; rfl⟩
              unfold lnsL
              rw [hno, hyes]
              simp only [if_true, Bool.false_eq_true, if_false]
              have hfit : (eff i).fits (sgs i) := by
                rcases ht.one i o (Nat.zero_le _) ho with ⟨_, _, h⟩ | ⟨_, p, args, tys, fid, xs, _, _, _, h⟩ | ⟨_, h⟩
                · rw [h] at hap; cases hap
                · rw [h] at hap; cases hap
                · exact stepS_fits h
              have q1 : (sgs i).lns = (sgs 0).lns := ht.lnsq 0 i (Nat.zero_le _) (by omega) (fun m _ hm => by
                cases h : (eff m).isApp with
                | false => rfl
                | true => have := happ m i (by omega) hlt h hap; omega)
              have q2 : (sgs ops.size).lns = (sgs (i + 1)).lns := ht.lnsq (i + 1) ops.size (by omega) (Nat.le_refl _) (fun m hm1 hm => by
                cases h : (eff m).isApp with
                | false => rfl
                | true => have := happ m i hm hlt h hap; omega)
              have q3 := sg_lns (eff i) (sgs i) hfit
              have q4 : lnsOf (sgs 0) = lnsOf (sgs i) := by unfold lnsOf; rw [q1]
              rw [q4]
              show (fun k => (sgs ops.size).lns[k]?) = _
              rw [q2, ht.sg i o (Nat.zero_le _) ho]
              exact q3
            · have hid : (eff i).lns (lnsL ops.size sgs eff L) = lnsL ops.size sgs eff L := by
                cases he : eff i with
                | app t e n => rw [he] at hap; simp [Ef.isApp] at hap
                | _ => rfl
              rw [hid]
              unfold lnsL
              have : (List.range ops.size).any (fun j => (L.setIfInBounds i true).getD j false && (eff j).isApp) = (List.range ops.size).any (fun j => L.getD j false && (eff j).isApp) := by
                rw [Bool.eq_iff_iff, List.any_eq_true, List.any_eq_true]
                refine ⟨fun ⟨j, h1, h2⟩ => ⟨j, h1, ?_⟩, fun ⟨j, h1, h2⟩ => ⟨j, h1, ?_⟩⟩
                · simp only [Bool.and_eq_true] at h2 ⊢
                  rw [hset] at h2
                  by_cases ej : j = i
                  · subst ej; exact absurd h2.2 hap
                  · rw [if_neg ej] at h2; exact h2
                · simp only [Bool.and_eq_true] at h2 ⊢
                  rw [hset]
                  split
                  · exact ⟨rfl, h2.2⟩
                  · exact h2
              rw [this]
          rw [e1, e2]
          exact hH'
      unfold wpOp
      rw [ho]
      simp only
      have hlw := look_wanted (frs := frs) (res := res) ht hd hcl ho hu hp
      rcases ht.one i o (Nat.zero_le _) ho with ⟨h1, h2, h3⟩ | ⟨h1, p, args, tys, fid, xs, h2, h3, h4, h5⟩ | ⟨h1, h2⟩
      · rw [wanted_ok hfr (hlw.trans h1), if_neg (by simp)]
        refine hnext G _ w (Cx.le.refl G) ?_ ?_ (by rw [put_defers]; exact hdf)
        · rw [h3]; exact hH
        · rw [h2]; exact FR_put hfr .skip o.dst
      · rw [wanted_ok hfr (hlw.trans h1), if_pos rfl]
        left
        have hc : callS (cfL ops frs res L) ⟨.value p, args, tys⟩ = some (fid, xs) := by
          rw [← h3]
          unfold callS
          simp only
          rw [look_operand ht hd hcl ho hu hp p (by rw [h2]; simp [Op.operands, Call.operands])]
          have : args.toList.map (evalO (cfL ops frs res L)) = args.toList.map (evalO (frs i)) := List.map_congr_left fun x hx => look_operand ht hd hcl ho hu hp x (by rw [h2]; simp at hx; simp [Op.operands, Call.operands, hx])
          rw [this]
        obtain ⟨vs, r1, r2⟩ := exec_call hfr h2 hc h4.1 w
        unfold Oper.wp
        rw [r1]
        refine (h4.2 w G.F vs hH.fs ?_).mono ?_
        · refine ⟨by simp [r2.1], fun m x v a1 a2 => ?_⟩
          rw [List.getElem?_map] at a1
          cases hx : xs[m]? with
          | none => rw [hx] at a1; cases a1
          | some y => rw [hx] at a1; simp at a1; subst a1; exact clean_rel (r2.2 m y v hx a2) G.F (fun _ _ _ q => q)
        · rintro e w' ⟨v, rfl, hk, hv⟩
          have hv' : rel (G.withF (fresh w w')) (res i) v := by
            have : ∀ {x : V} {u : Value}, rel (bareG fun b o u => G.F b o u ∨ fresh w w' b o u) x u → rel (G.withF (fresh w w')) x u := by
              intro x u q
              induction q with
              | undef v => exact .undef v
              | d q => exact .d q
              | agg cs vs hl _ ih => exact .agg cs vs hl ih
              | tuple cs vs hl _ ih => exact .tuple cs vs hl ih
              | ptr k off b q => cases q
              | iptr cs off b o u q1 q2 => exact .iptr cs off b o u q1 q2
              | own t es v q L hL _ _ => cases hL
              | full es A q => exact .full es A q
              | nil => exact .nil
              | skip => exact .skip
              | sl k off len cap b q => cases q
              | fn f cs vs hl _ ih => exact .fn f cs vs hl ih
            exact this hv
          refine hnext (G.withF (fresh w w')) _ w' (G.le_withF _) ?_ (FR_put (FR_mono (G.le_withF _) hfr) hv' o.dst) (by rw [put_defers]; exact hdf)
          rw [h5]
          exact hH.grow hk
      · rw [wanted_ok hfr (hlw.trans h1), if_pos rfl]
        left
        have hkd := stepS_kind h2
        -- the same step in the state at hand
        have hst : stepS g (obsL ops.size q sgs eff L) (lnsL ops.size sgs eff L) (if (eff i).isAlloc = true then (sgs i).obs.length else (sgs ops.size).obs.length + (sgs q).obs.length) (if opApp o.op = true then (sgs i).lns.length else (sgs ops.size).lns.length + (sgs 0).lns.length) o (evalO (cfL ops frs res L)) = some (res i, eff i) := by
          refine stepS_same h2 (fun x hx => (look_operand ht hd hcl ho hu hp x hx).symm) ?_ ?_ ?_
          · intro j off x cs hx hxp hls hcs
            have htt : opTouch o.op = true := by unfold opTouch; rcases hls with z | z <;> rw [z] <;> simp
            have hqL : L.getD q false = false := by
              cases h : L.getD q false with
              | false => rfl
              | true => exact (hql h htt).elim
            have hiq : i ≤ q := by
              rcases Nat.lt_or_ge q i with z | z
              · rw [hafter i o z ho] at htt; cases htt
              · exact z
            have hr := evalO_rel hfr x
            rw [look_operand ht hd hcl ho hu hp x hx, hxp] at hr
            obtain ⟨b, hb, _⟩ := inv_ptr hr
            have hne := hH.obd j b hb
            unfold obsL at hne ⊢
            rw [hqL, if_neg (by simp)] at hne ⊢
            split
            · rw [ht.pref i q hiq hq1 (fun m _ hm => hq2 m hm) j (getElem_lt hcs)]
              exact hcs
            · rename_i hl; rw [if_neg hl] at hne; exact absurd rfl hne
          · intro hap
            rw [if_pos hap]
            have hno : ∀ m, m < ops.size → m ≠ i → (eff m).isApp = false := by
              intro m hm hmi
              cases h : (eff m).isApp with
              | false => rfl
              | true =>
                obtain ⟨x, hx⟩ := hop m hm
                have kx := (ht.kind m x hx).2.2 h
                rcases Nat.lt_trichotomy m i with z | z | z
                · exact absurd ⟨kx, hap⟩ (pair_app hd hx ho z)
                · exact absurd z hmi
                · exact absurd ⟨hap, kx⟩ (pair_app hd ho hx z)
            have q1 : (sgs i).lns = (sgs 0).lns := ht.lnsq 0 i (Nat.zero_le _) (by omega) (fun m _ hm => hno m (by omega) (by omega))
            refine ⟨?_, rfl⟩
            unfold lnsL
            have hno2 : (List.range ops.size).any (fun i => L.getD i false && (eff i).isApp) = false := by
              rw [Bool.eq_false_iff]
              intro h
              rw [List.any_eq_true] at h
              obtain ⟨j, hj, hj2⟩ := h
              simp only [Bool.and_eq_true] at hj2
              by_cases ej : j = i
              · subst ej; rw [hu] at hj2; cases hj2.1
              · rw [hno j (List.mem_range.1 hj) ej] at hj2; cases hj2.2
            rw [hno2]
            simp only [Bool.false_eq_true, if_false]
            unfold lnsOf
            rw [q1]
          · intro hal
            rw [if_pos hal]
        have hk0 : obsL ops.size q sgs eff L (if (eff i).isAlloc = true then (sgs i).obs.length else (sgs ops.size).obs.length + (sgs q).obs.length) = none := by
          split
          · rename_i hal
            have hkind := hkd.1 hal
            have htt : opTouch o.op = true := by unfold opTouch; rw [hkind]; simp
            have hqL : L.getD q false = false := by
              cases h : L.getD q false with
              | false => rfl
              | true => exact (hql h htt).elim
            unfold obsL
            rw [hqL, if_neg (by simp), if_neg]
            intro hl
            rw [live_iff] at hl
            rcases hl with hl | ⟨j, j1, j2, j3, j4⟩
            · have := ht.mono 0 i (Nat.zero_le _) (by omega); omega
            · have := ht.toks j i j1 hlt j3 hal j4
              subst this
              rw [hu] at j2; cases j2
          · unfold obsL
            split
            · rw [List.getElem?_eq_none (by omega)]
            · split
              · rw [List.getElem?_eq_none (by omega)]
              · rfl
        have ht0 : lnsL ops.size sgs eff L (if opApp o.op = true then (sgs i).lns.length else (sgs ops.size).lns.length + (sgs 0).lns.length) = none := by
          split
          · rename_i hap
            have hno : ∀ m, m < ops.size → m ≠ i → (eff m).isApp = false := by
              intro m hm hmi
              cases h : (eff m).isApp with
              | false => rfl
              | true =>
                obtain ⟨x, hx⟩ := hop m hm
                have kx := (ht.kind m x hx).2.2 h
                rcases Nat.lt_trichotomy m i with z | z | z
                · exact absurd ⟨kx, hap⟩ (pair_app hd hx ho z)
                · exact absurd z hmi
                · exact absurd ⟨hap, kx⟩ (pair_app hd ho hx z)
            have q1 : (sgs i).lns = (sgs 0).lns := ht.lnsq 0 i (Nat.zero_le _) (by omega) (fun m _ hm => hno m (by omega) (by omega))
            unfold lnsL
            have hno2 : (List.range ops.size).any (fun i => L.getD i false && (eff i).isApp) = false := by
              rw [Bool.eq_false_iff]
              intro h
              rw [List.any_eq_true] at h
              obtain ⟨j, hj, hj2⟩ := h
              simp only [Bool.and_eq_true] at hj2
              by_cases ej : j = i
              · subst ej; rw [hu] at hj2; cases hj2.1
              · rw [hno j (List.mem_range.1 hj) ej] at hj2; cases hj2.2
            rw [hno2]
            simp only [Bool.false_eq_true, if_false]
            unfold lnsOf
            rw [q1]
            exact List.getElem?_eq_none (Nat.le_refl _)
          · unfold lnsL
            split
            · unfold lnsOf; rw [List.getElem?_eq_none (by omega)]
            · unfold lnsOf; rw [List.getElem?_eq_none (by omega)]
        obtain ⟨nx, w', G', r1, r2, r3, r4⟩ := stepS_ok hH hk0 ht0 hfr hst
        have eo : (eff i).obs (obsL ops.size q sgs eff L) (if (eff i).isAlloc = true then (sgs i).obs.length else (sgs ops.size).obs.length + (sgs q).obs.length) = (eff i).obs (obsL ops.size q sgs eff L) (sgs i).obs.length := by
          cases he : eff i <;> simp [Ef.obs, Ef.isAlloc]
        rw [eo] at r4
        unfold Oper.wp
        rw [r1]
        rcases r2 with ⟨v, rfl, hv⟩ | ⟨rfl, hv⟩
        · exact hnext G' _ w' r3 r4 (FR_put (FR_mono r3 hfr) hv o.dst) (by rw [put_defers]; exact hdf)
        · exact hnext G' _ w' r3 r4 (by rw [hv]; exact FR_put (FR_mono r3 hfr) (.undef _) o.dst) (by rw [put_defers]; exact hdf)

end Go.Proofs.Ytjdjcjhdaedakaa
