import Derived.Test.YtjgngikiglhleaaGreatDoorSf
namespace Go.Proofs.YtjgngikiglhleaaGreatDoor
open Go.RowKit
def datas : List V → Option (List D)
 | []=>some []
 | x :: xs=>match x.data?,datas xs with | some a,some b=>some (a :: b) | _,_=>none
theorem datas_rel {G : Cx} : ∀ {xs : List V} {vs : List Value} {ds : List D},rels G xs vs → datas xs = some ds → ds.length = vs.length ∧ ∀ (i : Nat) (x : D) (v : Value),ds[i]? = some x → vs[i]? = some v → relD G.F x v
 | [],vs,ds,r,h=>by
  simp only [datas] at h; injection h with h; subst h
  exact ⟨r.1,fun i x v h=>by simp at h⟩
 | y :: ys,vs,ds,r,h=>by
  cases vs with
  | nil=>have := r.1; simp at this
  | cons v vs =>
   obtain ⟨r1,r2⟩ := rels_cons_inv r
   unfold datas at h
   split at h
   ·rename_i a b ha hb
    injection h with h; subst h
    obtain ⟨q1,q2⟩ := datas_rel r2 hb
    refine ⟨by simp [q1],fun i x u h1 h2=>?_⟩
    cases i with
    | zero=>simp at h1 h2; subst h1; subst h2; exact data_rel r1 ha
    | succ i=>simp at h1 h2; exact q2 i x u h1 h2
   ·cases h
theorem kind_val {F : Nat → Nat → Value → Prop} {x : D} {v : Value} {k : SK} (r : relD F x v) (h : x.kind? = some k) : v = x.val := by
 cases r <;> first | rfl | (simp [D.kind?] at h)
theorem kinds_vals {F : Nat → Nat → Value → Prop} : ∀ {ds : List D} {vs : List Value} {ks : List SK},ds.length = vs.length → (∀ (i : Nat) (x : D) (v : Value),ds[i]? = some x → vs[i]? = some v → relD F x v) → ds.map D.kind? = ks.map some → vs = ds.map D.val
 | [],vs,ks,hl,_,_=>by
  have : vs = [] := List.eq_nil_of_length_eq_zero hl.symm
  subst this; rfl
 | d :: ds,vs,ks,hl,r,hk=>by
  cases vs with
  | nil=>simp at hl
  | cons v vs =>
   cases ks with
   | nil=>simp at hk
   | cons k ks =>
    simp only [List.map_cons,List.cons.injEq] at hk
    have h1 := kind_val (r 0 d v rfl rfl) hk.1
    have h2 := kinds_vals (ds := ds) (vs := vs) (ks := ks) (by simpa using hl) (fun i x u a b=>r (i + 1) x u (by simpa using a) (by simpa using b)) hk.2
    rw [h1,h2]; rfl
def binV {P : Program} (g : Pg P) (op : BinOp) (t : TypeId) (x y : V) : Option V :=
 match x,y with
 | .d (.bool a),.d (.bool b) =>
  match P.underlying t with
  | some .bool=>match op with
   | .eql=>some (.d (.bool (a == b)))
   | .neq=>some (.d (.bool (!(a == b))))
   | _=>none
  | _=>none
 | .d a,.d b=>(binD op a b).map .d
 | .agg xs,.agg ys =>
  match g.E t,datas xs,datas ys with
  | some ks,some ds,some es =>
   if ds.map D.kind? = ks.map some ∧ es.map D.kind? = ks.map some then
    match op with
    | .eql=>some (.d (.bool (eqAll ds es)))
    | .neq=>some (.d (.bool (!(eqAll ds es))))
    | _=>none
   else none
  | _,_,_=>none
 | _,_=>none
theorem equal_bool {P : Program} {t : TypeId} (hu : P.underlying t = some .bool) (a b : Bool) (w : World) : (Op.equal t (.bool a) (.bool b)).run P w = .ok (a == b) w := by
 unfold Op.equal Op.maxDepth
 rw [show (10000 : Nat) = 9999 + 1 from rfl]
 unfold Op.equalIn
 simp only [Sem.run_bind,run_underlying hu,Result.andThen_ok]
 rfl
theorem eqGuard_bool {P : Program} (op : BinOp) (t : TypeId) (xo yo : Operand) (a b : Bool) (w : World) : (eqGuard op t xo yo (.bool a) (.bool b)).run P w = .ok () w := by
 unfold eqGuard; cases op <;> simp
theorem inv_bool {G : Cx} {t : Bool} {v : Value} (r : rel G (.d (.bool t)) v) : v = .bool t := by cases r with | d q=>cases q; rfl
theorem inv_int {G : Cx} {k : IntKind} {n : Int} {v : Value} (r : rel G (.d (.int k n)) v) : v = .int k n := by cases r with | d q=>cases q; rfl
theorem inv_ptr {G : Cx} {k off : Nat} {v : Value} (r : rel G (.ptr k off) v) : ∃ b,G.ob k = some b ∧ v = .pointer (some ⟨b,off,none⟩) := by cases r with | ptr _ _ b q=>exact ⟨b,q,rfl⟩
theorem inv_iptr {G : Cx} {cs : List D} {off : Nat} {v : Value} (r : rel G (.iptr cs off) v) : ∃ b o,∃ u : Nat → Value,v = .pointer (some ⟨b,o + off,none⟩) ∧ (∀ (j : Nat) (x : D),cs[j]? = some x → G.F b (o + j) (u j)) ∧ (∀ (j : Nat) (x : D),cs[j]? = some x → relD G.F x (u j)) := by
 cases r with | iptr _ _ b o u q1 q2=>exact ⟨b,o,u,rfl,q1,q2⟩
theorem binV_ok {P : Program} {g : Pg P} {G : Cx} {op : BinOp} {t : TypeId} {xo yo : Operand} {x y z : V} {v u : Value} (rx : rel G x v) (ry : rel G y u) (h : binV g op t x y = some z) (w : World) :
  ∃ r,((do eqGuard op t xo yo v u; binOp op t v u) : Sem Value).run P w = .ok r w ∧ rel G z r := by
 unfold binV at h
 split at h
 ·rename_i a b
  cases rx with
  | d q1 =>
   cases q1
   cases ry with
   | d q2 =>
    cases q2
    split at h
    ·rename_i hu
     split at h
     ·injection h with h; subst h
      exact ⟨.bool (a == b),by simp only [Sem.run_bind,eqGuard_bool,Result.andThen_ok,binOp,equal_bool hu,Sem.run_pure],.d (.bool _)⟩
     ·injection h with h; subst h
      exact ⟨.bool (!(a == b)),by simp only [Sem.run_bind,eqGuard_bool,Result.andThen_ok,binOp,equal_bool hu,Sem.run_pure],.d (.bool _)⟩
     ·cases h
    ·cases h
 ·rename_i a b _
  cases rx with
  | d q1 =>
   cases ry with
   | d q2 =>
    cases hb : binD op a b with
    | none=>rw [hb] at h; cases h
    | some c =>
     rw [hb] at h
     simp at h; subst h
     obtain ⟨r,h1,h2⟩ := binD_ok (P := P) (t := t) (xo := xo) (yo := yo) q1 q2 hb w
     exact ⟨r,h1,.d h2⟩
 ·rename_i xs ys
  split at h
  ·rename_i ks ds es hE hx hy
   split at h
   ·rename_i hk
    cases rx with
    | agg _ vs l1 r1 =>
     cases ry with
     | agg _ us l2 r2 =>
      obtain ⟨d1,d2⟩ := datas_rel ⟨l1,r1⟩ hx
      obtain ⟨e1,e2⟩ := datas_rel ⟨l2,r2⟩ hy
      have hv := kinds_vals d1 d2 hk.1
      have hu := kinds_vals e1 e2 hk.2
      subst hv; subst hu
      obtain ⟨g1,g2⟩ := g.hE t ks hE
      have hg : (eqGuard op t xo yo (.agg ⟨ds.map D.val⟩) (.agg ⟨es.map D.val⟩)).run P w = .ok () w := by
       unfold eqGuard; cases op <;> simp [g1,program,Sem.run]
      have heq := g2 ds es hk.1 hk.2 w
      split at h
      ·injection h with h; subst h
       exact ⟨.bool (eqAll ds es),by simp only [Sem.run_bind,hg,Result.andThen_ok,binOp,heq,Sem.run_pure],.d (.bool _)⟩
      ·injection h with h; subst h
       exact ⟨.bool (!(eqAll ds es)),by simp only [Sem.run_bind,hg,Result.andThen_ok,binOp,heq,Sem.run_pure],.d (.bool _)⟩
      ·cases h
   ·cases h
  ·cases h
 ·cases h
theorem run_mapM_list {P : Program} {α β : Type} (f : α → Sem β) (g : α → β) (w : World) : ∀ (l : List α),(∀ a ∈ l,(f a).run P w = .ok (g a) w) → (l.mapM f).run P w = .ok (l.map g) w
 | [],_=>by simp
 | a :: l,h=>by
  have ih := run_mapM_list f g w l (fun b hb=>h b (by simp [hb]))
  simp [List.mapM_cons,h a (by simp),ih]
theorem run_mapM_array {P : Program} {α β : Type} (f : α → Sem β) (g : α → β) (w : World) (l : Array α) (h : ∀ a ∈ l.toList,(f a).run P w = .ok (g a) w) : (l.mapM f).run P w = .ok (l.map g) w := by
 rw [Array.mapM_eq_mapM_toList]
 simp only [Sem.run_map,run_mapM_list f g w l.toList h,Result.andThen_ok]
 congr 1
 apply Array.ext'
 simp
def zeroV (P : Program) (t : TypeId) : Option V := match P.info? t with | some i=>(match i.zero with | some z=>some (lit z) | none=>none) | none=>none
theorem zeroV_ok {P : Program} {t : TypeId} {x : V} (h : zeroV P t = some x) (G : Cx) (w : World) : ∃ z,(zeroValue t).run P w = .ok z w ∧ rel G x z ∧ x = lit z := by
 unfold zeroV at h
 cases hi : P.info? t with
 | none=>rw [hi] at h; cases h
 | some i =>
  rw [hi] at h
  cases hz : i.zero with
  | none=>simp only [hz] at h; cases h
  | some z =>
   simp only [hz] at h
   injection h with h; subst h
   exact ⟨z,by simp [zeroValue,typeInfo,hi,hz,program,Sem.run],lit_rel G z,rfl⟩
inductive Pl where
 | struct (l : List (Nat × Nat))
 | array (sz : Nat)
def placesT (P : Program) (t : TypeId) : Option Pl :=
 match P.underlying t with
 | some (.struct fields)=>if fields.toList.all (fun f=>(sizeT P f.type).isSome) then some (.struct (fields.toList.map fun f=>(f.offset,(sizeT P f.type).getD 0))) else none
 | some (.array _ e)=>match sizeT P e with | some sz=>some (.array sz) | none=>none
 | _=>none
def buildV (P : Program) (t : TypeId) (parts : List (Nat × V)) : Option V :=
 match zeroV P t with
 | none=>none
 | some z=>match z.cells? with
  | none=>none
  | some zs=>match placesT P t with
   | some (.struct l)=>(fillV (fun i=>l[i]?) zs parts).map .agg
   | some (.array sz)=>(fillV (fun i=>some (i * sz,sz)) zs parts).map .agg
   | none=>none
theorem buildV_ok {P : Program} {G : Cx} {t : TypeId} {parts : List (Nat × V)} {us : List (Nat × Value)} {y : V} (hl : parts.length = us.length) (hp : ∀ (i : Nat) (p : Nat × V) (q : Nat × Value),parts[i]? = some p → us[i]? = some q → p.1 = q.1 ∧ rel G p.2 q.2) (h : buildV P t parts = some y) (w : World) :
  ∃ v,(Instr.build t ⟨us⟩).run P w = .ok v w ∧ rel G y v := by
 unfold buildV at h
 cases hz : zeroV P t with
 | none=>rw [hz] at h; cases h
 | some z =>
  rw [hz] at h
  simp only at h
  cases hc : z.cells? with
  | none=>rw [hc] at h; cases h
  | some zs =>
   rw [hc] at h
   simp only at h
   obtain ⟨zv,z1,z2,_⟩ := zeroV_ok hz G w
   have hzr := cells_rel z2 hc
   unfold placesT at h
   cases hu : P.underlying t with
   | none=>simp only [hu] at h; cases h
   | some dd =>
   cases dd with
   | struct fields =>
    simp only [hu] at h
    cases hall : fields.toList.all (fun f=>(sizeT P f.type).isSome) with
    | false=>simp only [hall,Bool.false_eq_true,if_false] at h; cases h
    | true =>
     simp only [hall,if_true] at h
     have hpl0 : (fun (i : Nat)=>(fields.toList.map fun (f : Field)=>(f.offset,(sizeT P f.type).getD 0))[i]?) = (fun i=>(fields[i]?).map fun (f : Field)=>(f.offset,(sizeT P f.type).getD 0)) := by
      funext i; simp
     rw [hpl0] at h
     cases hf : fillV (fun i=>(fields[i]?).map fun f=>(f.offset,(sizeT P f.type).getD 0)) zs parts with
     | none=>rw [hf] at h; cases h
     | some out =>
      rw [hf] at h
      simp at h; subst h
      obtain ⟨ws,w1,w2⟩ := fillV_ok parts us zs zv.cells.toList out hf hzr hl hp
      refine ⟨.agg ⟨ws⟩,?_,.agg _ _ w2.1 w2.2⟩
      have hm : (fields.mapM (fun (f : Field)=>(do pure (f.offset,← sizeOf f.type) : Sem (Nat × Nat)))).run P w = .ok (fields.map fun (f : Field)=>(f.offset,(sizeT P f.type).getD 0)) w := by
       refine run_mapM_array _ _ w fields (fun f hf=>?_)
       have := List.all_eq_true.1 hall f hf
       obtain ⟨n,hn⟩ := Option.isSome_iff_exists.1 this
       simp [run_size hn,hn]
      have hpl : (fun (i : Nat)=>(fields.map fun (f : Field)=>(f.offset,(sizeT P f.type).getD 0))[i]?) = (fun i=>(fields[i]?).map fun (f : Field)=>(f.offset,(sizeT P f.type).getD 0)) := by
       funext i; simp
      have hcell : (⟨zv.cells.toList⟩ : Array Value) = zv.cells := by simp
      rw [hcell] at w1
      simp only [Instr.build,Sem.run_bind,z1,Result.andThen_ok,run_underlying hu,hm,hpl,w1,Sem.run_pure]
   | array n e =>
    simp only [hu] at h
    cases hs : sizeT P e with
    | none=>simp only [hs] at h; cases h
    | some sz =>
     simp only [hs] at h
     cases hf : fillV (fun i=>some (i * sz,sz)) zs parts with
     | none=>rw [hf] at h; cases h
     | some out =>
      rw [hf] at h
      simp at h; subst h
      obtain ⟨ws,w1,w2⟩ := fillV_ok parts us zs zv.cells.toList out hf hzr hl hp
      refine ⟨.agg ⟨ws⟩,?_,.agg _ _ w2.1 w2.2⟩
      have hcell : (⟨zv.cells.toList⟩ : Array Value) = zv.cells := by simp
      rw [hcell] at w1
      simp only [Instr.build,Sem.run_bind,z1,Result.andThen_ok,run_underlying hu,run_size hs,w1,Sem.run_pure]
   | _=>simp only [hu] at h; cases h
def pureS {P : Program} (g : Pg P) (o : Oper) (ρ : Operand → V) : Option V :=
 match o.op with
 | .move x=>some (ρ x)
 | .assign x=>some (ρ x)
 | .pick c a b=>match ρ c with | .d (.bool t)=>some (if t then ρ a else ρ b) | _=>none
 | .build t parts=>buildV P t (parts.toList.map fun p=>(p.1,ρ p.2))
 | .nilCheck x=>match ρ x with | .ptr k off=>some (.ptr k off) | .iptr cs off=>some (.iptr cs off) | _=>none
 | .binOp op t x y _=>binV g op t (ρ x) (ρ y)
 | .unOp op _ x=>unV op (ρ x)
 | .convert src dst x=>if (P.underlying src).isSome then convV P dst (ρ x) else none
 | .makeFunc (.func f) first captured=>if first.toList = [] then some (.fn f (captured.toList.map ρ)) else none
 | .slice t x lo hi mx=>sliceV P t (ρ x) (lo.map ρ) (hi.map ρ) (mx.map ρ)
 | .fieldAddr t x f=>fieldAddrV P t (ρ x) f
 | .field t x f=>fieldV P t (ρ x) f
 | .indexAddr t x i=>indexAddrV P t (ρ x) (ρ i)
 | .index t x i=>indexV P t (ρ x) (ρ i)
 | .extract x i=>extractV (ρ x) i
 | .load t a=>match ρ a with | .iptr cs off=>partV P t (dcells cs) off | _=>none
 | .call c=>match c.callee,c.args.toList,c.argTypes.toList with | .builtin .len,[x],[t]=>lenV P t (ρ x) | _,_,_=>none
 | _=>none
theorem relO_map {G : Cx} {fr : Fr} {a : Act} (h : FR G fr a) (x : Option Operand) : relO G (x.map (evalO fr)) (x.map a.eval) := by
 cases x with
 | none=>trivial
 | some x=>exact evalO_rel h x
theorem pureS_ok {P : Program} {g : Pg P} {G : Cx} {o : Oper} {fr : Fr} {a : Act} {y : V} {w : World} (hF : ∀ b o v, G.F b o v → w.cell? ⟨b, o, none⟩ = some v) (hfr : FR G fr a) (h : pureS g o (evalO fr) = some y) :
    ∃ v,(execOp a.eval o).run P w = .ok (.value v) w ∧ rel G y v := by
  have ev := fun x=>evalO_rel hfr x
  have fin : ∀ (s : Sem Value) ,(∃ u,s.run P w = .ok u w ∧ rel G y u) → ∃ v,((do pure (.value (← s)) : Sem Next)).run P w = .ok (.value v) w ∧ rel G y v := by
    rintro s ⟨u,h1,h2⟩
    exact ⟨u,by simp [h1],h2⟩
  unfold pureS at h
  split at h <;> rename_i hop
  · injection h with h; subst h; exact ⟨_,by simp [execOp,hop],ev _⟩
  · injection h with h; subst h; exact ⟨_,by simp [execOp,hop],ev _⟩
  · rename_i c x z
    split at h
    · rename_i t hc
      injection h with h; subst h
      have hcv : a.eval c = .bool t := inv_bool (hc ▸ ev c)
      cases t
      · exact ⟨a.eval z,by simp [execOp,hop,hcv,asBool],ev _⟩
      · exact ⟨a.eval x,by simp [execOp,hop,hcv,asBool],ev _⟩
    · cases h
  · rename_i t parts
    have := buildV_ok (G := G) (us := parts.toList.map fun p=>(p.1,a.eval p.2)) (by simp) (fun i p q h1 h2=>by
      rw [List.getElem?_map] at h1 h2
      cases hq : parts.toList[i]? with
      | none=>rw [hq] at h1; cases h1
      | some r=>rw [hq] at h1 h2; simp at h1 h2; subst h1; subst h2; exact ⟨rfl,ev _⟩) h w
    obtain ⟨v,h1,h2⟩ := this
    refine ⟨v,?_,h2⟩
    have he : (parts.map fun x=>(x.1,a.eval x.2)) = (⟨parts.toList.map fun p=>(p.1,a.eval p.2)⟩ : Array (Nat × Value)) := by apply Array.ext'; simp
    simp only [execOp,hop,he,Sem.run_bind,h1,Result.andThen_ok,Sem.run_pure]
  · rename_i x
    have e := ev x
    split at h
    · rename_i k off hx
      injection h with h; subst h
      rw [hx] at e
      obtain ⟨b,q,hv⟩ := inv_ptr e
      exact ⟨.pointer (some ⟨b,off,none⟩),by simp [execOp,hop,hv],.ptr _ _ b q⟩
    · rename_i cs off hx
      injection h with h; subst h
      rw [hx] at e
      obtain ⟨b,o',u,hv,q1,q2⟩ := inv_iptr e
      exact ⟨.pointer (some ⟨b,o' + off,none⟩),by simp [execOp,hop,hv],.iptr _ _ b o' u q1 q2⟩
    · cases h
  · simp only [execOp,hop]; exact fin _ (binV_ok (ev _) (ev _) h w)
  · simp only [execOp,hop]; exact fin _ (unV_ok (ev _) h w)
  · split at h
    · simp only [execOp,hop]; exact fin _ (convV_ok (ev _) ‹_› h w)
    · cases h
  · rename_i f first captured
    split at h
    · rename_i hfirst
      injection h with h; subst h
      have hf : first = #[] := by cases first; simp_all
      subst hf
      refine ⟨.func (.func f) #[] ⟨captured.toList.map a.eval⟩,?_,.fn _ _ _ (by simp) (fun i x v h1 h2=>?_)⟩
      · have he : (captured.map a.eval) = (⟨captured.toList.map a.eval⟩ : Array Value) := by apply Array.ext'; simp
        simp [execOp,hop,Instr.makeFunc,he]
      · rw [List.getElem?_map] at h1 h2
        cases hq : captured.toList[i]? with
        | none=>rw [hq] at h1; cases h1
        | some r=>rw [hq] at h1 h2; simp at h1 h2; subst h1; subst h2; exact ev _
    · cases h
  · simp only [execOp,hop]; exact fin _ (sliceV_ok (ev _) (relO_map hfr _) (relO_map hfr _) (relO_map hfr _) h w)
  · simp only [execOp,hop]; exact fin _ (fieldAddrV_ok (ev _) h w)
  · simp only [execOp,hop]; exact fin _ (fieldV_ok (ev _) h w)
  · simp only [execOp,hop]; exact fin _ (indexAddrV_ok (ev _) (ev _) h w)
  · simp only [execOp,hop]; exact fin _ (indexV_ok (ev _) (ev _) h w)
  · simp only [execOp,hop]; exact fin _ (extractV_ok (ev _) h w)
  · rename_i t x
    split at h
    · rename_i cs off hx
      have e := ev x
      rw [hx] at e
      obtain ⟨b,o',u,hv,q1,q2⟩ := inv_iptr e
      have hr := iptr_cells (G := G) q2
      obtain ⟨v,h1,h2⟩ := loadF_ok (b := b) (o := o') (w := w) h hr (fun j v hj=>by
        rw [List.getElem?_map] at hj
        cases hc : cs[j]? with
        | none =>
          rw [List.getElem?_eq_none (by rw [List.length_range]; exact List.getElem?_eq_none_iff.1 hc)] at hj
          cases hj
        | some y =>
          rw [List.getElem?_range (getElem_lt hc)] at hj
          simp at hj; subst hj
          exact hF _ _ _ (q1 j y hc))
      refine ⟨v,?_,h2⟩
      simp only [execOp,hop,Instr.loadAt,hv,Instr.sureAddr,Sem.run_bind,Sem.run_pure,Result.andThen_ok,h1]
    · cases h
  · rename_i c
    split at h
    · rename_i x t hcal hargs htys
      obtain ⟨u,h1,h2⟩ := lenV_ok (ty := o.type) (ev x) h w
      have ha : c.args = #[x] := by apply Array.ext'; simp [hargs]
      have ht : c.argTypes = #[t] := by apply Array.ext'; simp [htys]
      refine ⟨u,?_,h2⟩
      simp only [execOp,hop,resolve,hcal,ha,ht,Sem.run_bind,Sem.run_pure,Result.andThen_ok,invoke,builtin]
      simp [h1]
    · cases h
  · cases h
end Go.Proofs.YtjgngikiglhleaaGreatDoor
