/-
  Contracts of the walks before, as contracts in the shadow.
-/
import Derived.Test.YtjdjcjhdaedakaaMb
namespace Go.Proofs.Ytjdjcjhdaedakaa
open Go.RowKit
set_option linter.unusedSimpArgs false

/-- Plain numbers, truths, texts, and aggregates of them: their values. -/
def V.val : V → Value
  | .d x => x.val
  | .agg cs => .agg ⟨cs.map fun | .d x => x.val | _ => Go.undef⟩
  | _ => Go.undef
def V.plain : V → Bool
  | .d x => x.kind?.isSome
  | .agg cs => cs.all fun | .d x => x.kind?.isSome | _ => false
  | _ => false
theorem plain_val {G : Cx} {x : V} {v : Value} (r : rel G x v) (h : x.plain = true) : v = x.val := by
  cases r with
  | d q =>
    simp only [V.plain, Option.isSome_iff_exists] at h
    obtain ⟨k, hk⟩ := h
    exact kind_val q hk
  | agg cs vs hl hr =>
    simp only [V.plain, List.all_eq_true] at h
    simp only [V.val]
    congr 2
    apply List.ext_getElem?
    intro i
    rw [List.getElem?_map]
    rcases Nat.lt_or_ge i vs.length with q | q
    · have q2 : i < cs.length := by omega
      rw [List.getElem?_eq_getElem q, List.getElem?_eq_getElem q2]
      have h1 := hr i cs[i] vs[i] (List.getElem?_eq_getElem q2) (List.getElem?_eq_getElem q)
      have h2 := h cs[i] (List.getElem_mem _)
      generalize cs[i] = c at *
      cases c with
      | d x =>
        cases h1 with
        | d z =>
          simp only [Option.isSome_iff_exists] at h2
          obtain ⟨k, hk⟩ := h2
          simp [kind_val z hk]
      | _ => simp at h2
    · rw [List.getElem?_eq_none q, List.getElem?_eq_none (by omega)]; rfl
  | _ => simp [V.plain] at h
theorem rels_uncons {G : Cx} {x : V} {cs : List V} {vs : List Value} (r : rels G (x :: cs) vs) : ∃ v us, vs = v :: us ∧ rel G x v ∧ rels G cs us := by
  cases vs with
  | nil => have := r.1; simp at this
  | cons v us => obtain ⟨h1, h2⟩ := rels_cons_inv r; exact ⟨v, us, rfl, h1, h2⟩
theorem rels_none {G : Cx} {vs : List Value} (r : rels G [] vs) : vs = [] := List.eq_nil_of_length_eq_zero r.1.symm

/-- A slice that the call owns, as a list. -/
theorem own_list {w w' : World} {F : Nat → Nat → Value → Prop} {e : TypeId} {sz : Nat} {v : Value} {es : List (List D)} {xs : List Value} (h : w'.ownsRow w.heap.size e sz v es.length xs) (hs : ∀ (i : Nat) (c : List D), es[i]? = some c → c.length = sz)
    (hx : ∀ (i j : Nat) (c : List D) (x : D), es[i]? = some c → c[j]? = some x → ∃ u, xs[i * sz + j]? = some u ∧ relD F x u) (hF : ∀ b o u, fresh w w' b o u → F b o u) : relD F (.list es) v := by
  by_cases h0 : es.length = 0
  · have : es = [] := List.eq_nil_of_length_eq_zero h0
    subst this
    obtain ⟨A, c, rfl⟩ := own_slice h
    exact .nil _ _
  · obtain ⟨g, cap, rfl, hb, hlt⟩ := h.form (by omega)
    have hcap : es.length ≤ cap := by
      rcases h.2 with ⟨h1, h2⟩ | ⟨g', cap', cur, h1, _, _, h3, _⟩
      · cases h1
      · injection h1 with _ _ h1; omega
    refine .list es g 0 cap sz (fun i j => (xs[i * sz + j]?).getD Go.undef) (by omega) hcap hs (fun i j c x hc hj => ?_) (fun i j c x hc hj => ?_)
    · obtain ⟨u, u1, u2⟩ := hx i j c x hc hj
      refine hF _ _ _ ⟨hb, ?_⟩
      have := h.cells (g := g) rfl _ u u1
      rw [Addr.add_lit] at this
      rw [u1]
      rw [Nat.zero_add] at this ⊢
      exact this
    · obtain ⟨u, u1, u2⟩ := hx i j c x hc hj
      rw [u1]; exact u2

theorem own_pos {w w' : World} {F : Nat → Nat → Value → Prop} {v : Value} {ps : List (Int × Int × Int)} (h : w'.ownsRow w.heap.size 23 3 v ps.length (cells3 ps)) (hF : ∀ b o u, fresh w w' b o u → F b o u) : relD F (.list (ps.map encP)) v := by
  refine own_list (sz := 3) (xs := cells3 ps) (by simpa using h) ?_ ?_ hF
  · intro i c hc
    rw [List.getElem?_map] at hc
    cases hp : ps[i]? with
    | none => rw [hp] at hc; cases hc
    | some p => rw [hp] at hc; simp at hc; subst hc; rfl
  · intro i j c x hc hx
    rw [List.getElem?_map] at hc
    cases hp : ps[i]? with
    | none => rw [hp] at hc; cases hc
    | some p =>
      rw [hp] at hc; simp at hc; subst hc
      have hi := getElem_lt hp
      obtain ⟨c1, c2, c3⟩ := cells3_at hi
      have e : ps[i] = p := by rw [List.getElem?_eq_getElem hi] at hp; injection hp
      rw [e] at c1 c2 c3
      have hj := getElem_lt hx
      simp only [encP, List.length_cons, List.length_nil] at hj
      have : j = 0 ∨ j = 1 ∨ j = 2 := by omega
      rcases this with rfl | rfl | rfl
      · simp [encP] at hx; subst hx; exact ⟨_, c1, .int _ _⟩
      · simp [encP] at hx; subst hx; exact ⟨_, c2, .int _ _⟩
      · simp [encP] at hx; subst hx; exact ⟨_, c3, .int _ _⟩

/-- A list of moves, as the walks before read it. -/
theorem rd_moves {F : Nat → Nat → Value → Prop} {w : World} {v : Value} {l : List Mv} (hF : ∀ b o u, F b o u → b < w.heap.size ∧ w.cell? ⟨b, o, none⟩ = some u) (h : relD F (.list (l.map encV)) v) : Rd w 7 v l.length (cells7 l) := by
  refine ⟨cells7_length l, ?_⟩
  generalize hes : l.map encV = es at h
  cases h with
  | nil A c =>
    have : l = [] := by simpa using hes
    subst this
    exact ⟨A, c, rfl, fun h => absurd h (by simp)⟩
  | list _ b off c sz u hne hcap hs hFc hr =>
    subst hes
    refine ⟨some ⟨b, off, none⟩, c, by simp, fun h0 => ⟨b, off, rfl, ?_, ?_⟩⟩
    · have h1 : (l.map encV)[0]? = some (encV l[0]) := by rw [List.getElem?_map, List.getElem?_eq_getElem h0]; rfl
      exact (hF _ _ _ (hFc 0 0 _ (.int .i64 l[0].k) h1 rfl)).1
    · apply cells7_get
      intro i hi j hj
      have h1 : (l.map encV)[i]? = some (encV l[i]) := by rw [List.getElem?_map, List.getElem?_eq_getElem hi]; rfl
      have hsz := hs i _ h1
      simp only [encV, List.length_cons, List.length_nil] at hsz
      subst hsz
      have key : ∀ (j : Nat) (x : D) (val : Value), (encV l[i])[j]? = some x → (∀ u, relD F x u → u = val) → w.cell? ⟨b, off + (i * 7 + j), none⟩ = some val := by
        intro j x val hx hu
        have q1 := hFc i j _ x h1 hx
        have q2 := hu _ (hr i j _ x h1 hx)
        rw [q2] at q1
        rw [← Nat.add_assoc]
        exact (hF _ _ _ q1).2
      have inv : ∀ n u, relD F (.int .i64 n) u → u = .int .i64 n := fun n u q => by cases q; rfl
      have : j = 0 ∨ j = 1 ∨ j = 2 ∨ j = 3 ∨ j = 4 ∨ j = 5 ∨ j = 6 := by omega
      rcases this with rfl | rfl | rfl | rfl | rfl | rfl | rfl
      all_goals exact key _ _ _ rfl (inv _)

def mvV (m : Mv) : List V := [.d (.int .i64 m.k), .d (.int .i64 m.x), .d (.int .i64 m.y), .d (.int .i64 m.z), .d (.int .i64 m.cx), .d (.int .i64 m.cy), .d (.int .i64 m.r)]

theorem spec_calls {f : FuncId} {args : List V} {r : V} (he : enterable Try.prog f = true) (hp : args.all V.plain = true) (h : ∀ w, Calls Try.prog f ⟨args.map V.val⟩ w fun e w' => ∃ v, e = .returned v ∧ Kp w w' ∧ ∀ F : Nat → Nat → Value → Prop, (∀ b o u, fresh w w' b o u → F b o u) → rel (bareG F) r v) : Spec gP f args r := by
  refine ⟨he, fun w F vs hF hr => ?_⟩
  have : vs = args.map V.val := by
    apply List.ext_getElem?
    intro i
    rw [List.getElem?_map]
    rcases Nat.lt_or_ge i vs.length with q | q
    · have q2 : i < args.length := by rw [hr.1]; exact q
      rw [List.getElem?_eq_getElem q, List.getElem?_eq_getElem q2]
      have h1 := hr.2 i args[i] vs[i] (List.getElem?_eq_getElem q2) (List.getElem?_eq_getElem q)
      have h2 := List.all_eq_true.1 hp args[i] (List.getElem_mem _)
      simp [plain_val h1 h2]
    · rw [List.getElem?_eq_none q, List.getElem?_eq_none (by rw [hr.1]; exact q)]; rfl
  subst this
  refine (h w).mono ?_
  rintro e w' ⟨v, rfl, hk, hv⟩
  exact ⟨v, rfl, hk, hv _ (fun b o u q => .inr q)⟩

theorem validS (p : Int × Int × Int) (m : Mv) (hp : I64 p.1 ∧ I64 p.2.1 ∧ I64 p.2.2) (hm : m.ok) : Spec gP 14 [.agg (posV p), .agg (mvV m)] (.d (.int .i64 (Mv.valid p.1 p.2.1 p.2.2 m))) := by
  obtain ⟨_, m1, m2, m3, m4, m5, _⟩ := hm
  refine spec_calls (by kernel_rfl) rfl (fun w => ?_)
  exact (valid_any p.1 p.2.1 p.2.2 m.k m.x m.y m.z m.cx m.cy m.r w hp.1 hp.2.1 hp.2.2 m1 m2 m3 m4 m5).mono fun e w' ⟨he, hk⟩ => ⟨_, he, hk, fun F _ => .d (.int _ _)⟩
theorem isArcS (m : Mv) : Spec gP 29 [.agg (mvV m)] (.d (.bool m.arc)) := by
  refine spec_calls (by kernel_rfl) rfl (fun w => ?_)
  exact (isArc_any m.k m.x m.y m.z m.cx m.cy m.r w).mono fun e w' ⟨he, hk⟩ => ⟨_, he, hk, fun F _ => .d (.bool _)⟩
theorem arcS (p : Int × Int × Int) (m : Mv) (hp : I64 p.1 ∧ I64 p.2.1 ∧ I64 p.2.2) (hm : m.ok) (ha : m.arc = true) (hv : Mv.valid p.1 p.2.1 p.2.2 m = 0) :
    Spec gP 18 [.agg (posV p), .agg (mvV m)] (.tuple [.d (.list ((stepPs p.1 p.2.1 p.2.2 m).map encP)), .d (.int .i64 0)]) := by
  obtain ⟨_, m1, m2, m3, m4, m5, _⟩ := hm
  refine spec_calls (by kernel_rfl) rfl (fun w => ?_)
  refine (arc_good p.1 p.2.1 p.2.2 m.k m.x m.y m.z m.cx m.cy m.r w hp.1 hp.2.1 hp.2.2 m1 m2 m3 m4 m5 ha (neqz hv)).mono ?_
  rintro e w' ⟨v, he, hown, hk⟩
  refine ⟨_, he, hk, fun F hF => ?_⟩
  have hr := own_pos hown hF
  have hs : stepPs p.1 p.2.1 p.2.2 m = arcM p.1 p.2.1 p.2.2 m.k m.x m.y m.z m.cx m.cy := by unfold stepPs; rw [if_pos ha]
  rw [hs]
  exact .tuple _ [_, _] rfl (rels_cons (.d hr) (rels_cons (.d (.int _ _)) (rels_nil _))).2
theorem awakeS : Spec gP 11 [] (.d (.bool true)) := by
  refine spec_calls (by kernel_rfl) rfl (fun w => ?_)
  exact (awake_any w).mono fun e w' ⟨he, hk⟩ => ⟨_, he, hk, fun F _ => .d (.bool _)⟩
theorem posV_val {G : Cx} {p : Int × Int × Int} {v : Value} (r : rel G (.agg (posV p)) v) : v = .agg #[.int .i64 p.1, .int .i64 p.2.1, .int .i64 p.2.2] := plain_val r rfl
theorem fewS (p : Int × Int × Int) (l : List Mv) (hp : I64 p.1 ∧ I64 p.2.1 ∧ I64 p.2.2) (hok : ∀ m ∈ l, m.ok) (hl : l.length ≤ 12) : Spec gP 17 [.agg (posV p), .d (.list (l.map encV)), .d (.int .i64 12)] (.d (.bool (fewM p.1 p.2.1 p.2.2 l))) := by
  refine ⟨by kernel_rfl, fun w F vs hF hr => ?_⟩
  obtain ⟨v1, us, rfl, r1, hr⟩ := rels_uncons hr
  obtain ⟨v2, us, rfl, r2, hr⟩ := rels_uncons hr
  obtain ⟨v3, us, rfl, r3, hr⟩ := rels_uncons hr
  obtain rfl := rels_none hr
  obtain rfl := posV_val r1
  obtain rfl := inv_int r3
  cases r2 with
  | d q => exact (few_any p.1 p.2.1 p.2.2 v2 l 12 w hp.1 hp.2.1 hp.2.2 (rd_moves hF q) hok (by omega) (by omega)).mono fun e w' ⟨he, hk⟩ => ⟨_, he, hk, .d (.bool _)⟩
theorem fewmanyS (p : Int × Int × Int) (l : List Mv) (hl : 12 < l.length) : Spec gP 17 [.agg (posV p), .d (.list (l.map encV)), .d (.int .i64 12)] (.d (.bool false)) := by
  refine ⟨by kernel_rfl, fun w F vs hF hr => ?_⟩
  obtain ⟨v1, us, rfl, r1, hr⟩ := rels_uncons hr
  obtain ⟨v2, us, rfl, r2, hr⟩ := rels_uncons hr
  obtain ⟨v3, us, rfl, r3, hr⟩ := rels_uncons hr
  obtain rfl := rels_none hr
  obtain rfl := posV_val r1
  obtain rfl := inv_int r3
  cases r2 with
  | d q =>
    obtain ⟨A, c, rfl⟩ := list_len q
    refine (few_many p.1 p.2.1 p.2.2 A _ c 12 w (by simp; omega)).mono fun e w' ⟨he, hk⟩ => ⟨_, he, hk, .d (.bool _)⟩
theorem rendS (p : Int × Int × Int) (l : List Mv) (hl : l.length ≤ 1000000) : Spec gP 26 [.agg (posV p), .d (.list (l.map encV))] (.agg (posV (endM p.1 p.2.1 p.2.2 l))) := by
  refine ⟨by kernel_rfl, fun w F vs hF hr => ?_⟩
  obtain ⟨v1, us, rfl, r1, hr⟩ := rels_uncons hr
  obtain ⟨v2, us, rfl, r2, hr⟩ := rels_uncons hr
  obtain rfl := rels_none hr
  obtain rfl := posV_val r1
  cases r2 with
  | d q => exact (rend_any p.1 p.2.1 p.2.2 v2 l w (rd_moves hF q) (by omega)).mono fun e w' ⟨he, hk⟩ => ⟨_, he, hk, .agg _ [_, _, _] rfl (rels_cons (.d (.int _ _)) (rels_cons (.d (.int _ _)) (rels_cons (.d (.int _ _)) (rels_nil _)))).2⟩
theorem rposS (p : Int × Int × Int) (l : List Mv) (hp : I64 p.1 ∧ I64 p.2.1 ∧ I64 p.2.2) (hok : ∀ m ∈ l, m.ok) (hl : l.length ≤ 1000000) (ht : (runM p.1 p.2.1 p.2.2 l).1.flatten.length ≤ 20000) :
    Spec gP 24 [.agg (posV p), .d (.list (l.map encV))] (.tuple [.d (.list ((outM (runM p.1 p.2.1 p.2.2 l)).map encP)), .d (.int .i64 (runM p.1 p.2.1 p.2.2 l).2)]) := by
  refine ⟨by kernel_rfl, fun w F vs hF hr => ?_⟩
  obtain ⟨v1, us, rfl, r1, hr⟩ := rels_uncons hr
  obtain ⟨v2, us, rfl, r2, hr⟩ := rels_uncons hr
  obtain rfl := rels_none hr
  obtain rfl := posV_val r1
  cases r2 with
  | d q =>
    refine (rpositions_any p.1 p.2.1 p.2.2 v2 l w hp.1 hp.2.1 hp.2.2 (rd_moves hF q) hok (by omega) ht).mono ?_
    rintro e w' ⟨v, he, hown, hk⟩
    exact ⟨_, he, hk, .tuple _ [_, _] rfl (rels_cons (.d (own_pos hown (fun b o u q => Or.inr q))) (rels_cons (.d (.int _ _)) (rels_nil _))).2⟩

end Go.Proofs.Ytjdjcjhdaedakaa
