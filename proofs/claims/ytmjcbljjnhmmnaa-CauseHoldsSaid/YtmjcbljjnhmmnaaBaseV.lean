/- OWN WORK, put together by tools/asm.py, seat.py, mini.py. -/
import Derived.Test.YtmjcbljjnhmmnaaBaseR
import Derived.MapKept
namespace Go.Ab
open Go.RowKit
open Go.MapKept (run_findKey)
section
variable {P : Program} {W : World} {O S0 : Nat → Prop} {m : Mp} {S : Nat → Prop} {σ : St} {w : World} {e : Nat → AV} {a : Act} {o : Oper} {K : AV → St → Prop} {Q : Exit → Act → World → Prop} {g0 : Nat}
 {ob : Nat → Option AObj} {N C : Nat → Nat} {id : Nat}
theorem Inv.putW (hI : Inv W O S0 m S σ w) {id : Nat} {ob : AObj} {b : Nat} {v : Value} (hob : σ.ob id = some ob) (hro : ob.ro = false) (hm : m ob.g = some v) (hvb : v.ownBlock = some b) {w' : World}
  (h1 : w'.os = w.os) (h2 : w'.tape = w.tape) (h3 : w'.output = w.output) (hsz : w'.heap.size = w.heap.size) (hb : ∀ k, k ≠ b → w'.heap[k]? = w.heap[k]?) {l' : List AV} {xs' : List Value}
  (hok : okL ob.es l') (hes0 : 0 < ob.es) (hown : OwnX w' ob.ty ob.es ob.ap v l'.length xs') (hxs : VRs m S w (flatL l') xs') :
  Inv W O S0 m S (σ.put id ob l') w' ∧ Ext m S w m S w' := by
 obtain ⟨vv, hm', _, hblk⟩ := hI.sim.obj id ob hob
 rw [hm] at hm'; obtain rfl := Option.some.inj hm'
 have hSb : ¬ S b := (hblk b hvb).2 hro
 have hX : Ext m S w m S w' := ⟨Mp.le_refl m, fun _ h => h, fun k hk => hb k (fun e => hSb (e ▸ hk))⟩
 refine ⟨⟨⟨hI.sim.fresh, ?_, ?_, ?_⟩, ⟨h1.trans hI.fr.os, h2.trans hI.fr.tape, h3.trans hI.fr.output, by rw [hsz]; exact hI.fr.size, ?_, ?_, hI.fr.sub⟩⟩, hX⟩
 ·intro k o' ho'
  by_cases e : k = id
  ·subst e
   simp only [St.put, upd_same, Option.some.injEq] at ho'
   subst ho'
   exact ⟨_, hm, ⟨hok, hes0, xs', hown, hxs.ext hX⟩, hblk⟩
  ·simp only [St.put, upd_ne _ _ _ _ e] at ho'
   obtain ⟨v', h1, h2, h3⟩ := hI.sim.obj k o' ho'
   refine ⟨v', h1, h2.ext hX fun k' hk' => hb k' fun e' => ?_, h3⟩
   subst e'
   exact hI.sim.dist k id o' ob v' _ _ ho' hob e h1 hm hk' hvb
 ·intro k k' o1 o2 v1 v2 b2 h1 h2 hne h3 h4 h5
  have key : ∀ k o1, (σ.put id ob l').ob k = some o1 → ∃ o1', σ.ob k = some o1' ∧ o1'.g = o1.g := by
   intro k o1 h
   by_cases e : k = id
   ·subst e; simp only [St.put, upd_same, Option.some.injEq] at h; subst h; exact ⟨ob, hob, rfl⟩
   ·simp only [St.put, upd_ne _ _ _ _ e] at h; exact ⟨o1, h, rfl⟩
  obtain ⟨o1', h1', hg1⟩ := key k o1 h1
  obtain ⟨o2', h2', hg2⟩ := key k' o2 h2
  exact hI.sim.dist k k' o1' o2' v1 v2 b2 h1' h2' hne (by rw [hg1]; exact h3) (by rw [hg2]; exact h4) h5
 ·intro k hk; rw [hsz]; exact hI.sim.lt k hk
 ·intro k hk hO
  by_cases e : k = b
  ·subst e
   rcases hI.fr.own id ob _ _ hob hro hm hvb with h | h
   ·exact absurd h hO
   ·have h' : W.heap.size ≤ k := h
    omega
  ·rw [hb k e]; exact hI.fr.block k hk hO
 ·intro k o1 v1 b1 h1 h2 h3 h4
  by_cases e : k = id
  ·subst e; simp only [St.put, upd_same, Option.some.injEq] at h1; subst h1; exact hI.fr.own k ob v1 b1 hob hro h3 h4
  ·simp only [St.put, upd_ne _ _ _ _ e] at h1; exact hI.fr.own k o1 v1 b1 h1 h2 h3 h4
theorem s_mkmap {t k el : TypeId} {r : Option Operand} (hI : Inv W O S0 m S ⟨ob, N id, C g0⟩ w) (hg0 : m g0 = none) (hc' : ∀ g v, m g = some v → g < C (g0 + 1)) (hgc : g0 < C (g0 + 1)) (ho : o.op = .makeMap t r)
  (hu : P.underlying t = some (.map k el)) (hr : hintOk r = true) (h : run1 (HC P) .mkmap e ⟨ob, id, g0⟩ (fun v τ => K v ⟨τ.ob, N τ.n, C τ.c⟩)) : o.wp P a w (Good W O S0 m S w g0 o a K) Q := by
 have hI' := hI.freshX (row := none) (xs := []) id 2 mapTy false [] (.slice (some ⟨w.heap.size, 0, some 0⟩) 0 0) (N (id + 1)) g0 (C (g0 + 1)) hg0 hc' hgc (World.grownBy_alloc w (.map #[] 0) none) (by omega) (fun x hx => by simp at hx)
  (.inr ⟨rfl, rfl, rfl, w.heap.size, #[], 0, rfl, heap_alloc_new w _, Go.MapKept.stamped_empty 0, [], none, List.Perm.refl _, rfl, rfl, .nil, fun e he => by cases he⟩) VRs.nil (fun b hb => by cases hb) (fun b hb => .inr (by simp [Value.ownBlock] at hb; omega))
 have hX : Ext m S w (upd m g0 (some (.slice (some ⟨w.heap.size, 0, some 0⟩) 0 0))) S (w.alloc (.map #[] 0)) := ⟨le_updG hg0 _, fun _ h => h, fun b hb => Below.heap_alloc w _ b (hI.sim.lt b hb)⟩
 refine good_of_run (v := .map (some w.heap.size)) ?_ h hI' hX (.mapo (upd_same _ _ _)) (fun g hg => upd_ne _ _ _ _ hg)
 unfold hintOk at hr
 split at hr
 ·simp [execOp, ho, Instr.makeMap]
 ·simp [execOp, ho, Instr.makeMap, run_underlying hu, Act.eval, asInt, asIntOf]
 ·cases hr
theorem findNow_spec {K kk : IntKind} {n : Int} : ∀ (es : List MapEntry) (i : Nat), (∀ e ∈ es, ∃ a, e.key = .int kk a) →
  (Instr.findNow (.int K) (.int kk n) es i = some none ∧ ∀ e ∈ es, e.key ≠ .int kk n) ∨ ∃ j e, Instr.findNow (.int K) (.int kk n) es i = some (some (i + j, e.val)) ∧ es[j]? = some e ∧ e.key = .int kk n
 | [], i, _ => .inl ⟨rfl, fun e h => by simp at h⟩
 | e1 :: es, i, h => by
  obtain ⟨a, ha⟩ := h e1 (by simp)
  have hs : Instr.findNow (.int K) (.int kk n) (e1 :: es) i = if n = a then some (some (i, e1.val)) else Instr.findNow (.int K) (.int kk n) es (i + 1) := by
   simp only [Instr.findNow, ha, Instr.sameNow, if_true]
   by_cases h : n = a
   ·simp [h]
   ·have h2 : (n == a) = false := by simpa using h
    simp [h, h2]
  rw [hs]
  by_cases hn : n = a
  ·rw [if_pos hn]
   exact .inr ⟨0, e1, rfl, rfl, by rw [ha, hn]⟩
  ·rw [if_neg hn]
   rcases findNow_spec es (i + 1) (fun e he => h e (by simp [he])) with ⟨h1, h2⟩ | ⟨j, e, h1, h2, h3⟩
   ·refine .inl ⟨h1, fun e he => ?_⟩
    rcases List.mem_cons.1 he with rfl | he
    ·rw [ha]; intro hh; cases hh; exact hn rfl
    ·exact h2 e he
   ·exact .inr ⟨j + 1, e, by rw [h1, Nat.add_assoc, Nat.add_comm 1 j], h2, h3⟩
theorem keyOk_spec {kk : IntKind} {y : AV} (h : keyOk kk y = true) : ∃ a x, y = .agg [.int kk a, x] := by
 unfold keyOk at h
 split at h
 ·rename_i k' a x
  have : k' = kk := by simpa using h
  subst this
  exact ⟨a, x, rfl⟩
 ·cases h
theorem mget_pos {kk : IntKind} {n a : Int} {x : AV} {l : List AV} (h : n = a) : mget n (.agg [.int kk a, x] :: l) = some x := by simp [mget, keyOf, valOf, h]
theorem mget_neg {kk : IntKind} {n a : Int} {x : AV} {l : List AV} (h : ¬ n = a) : mget n (.agg [.int kk a, x] :: l) = mget n l := by simp [mget, keyOf, h]
theorem mset_eq {k kk : IntKind} {n a : Int} {x v : AV} {l : List AV} (h : n = a) : mset k n v (.agg [.int kk a, x] :: l) = .agg [.int k n, v] :: l := by simp [mset, keyOf, h]
theorem mset_lt {k kk : IntKind} {n a : Int} {x v : AV} {l : List AV} (h : n < a) : mset k n v (.agg [.int kk a, x] :: l) = .agg [.int k n, v] :: .agg [.int kk a, x] :: l := by
 have : ¬ n = a := by omega
 simp [mset, keyOf, h, this]
theorem mset_gt {k kk : IntKind} {n a : Int} {x v : AV} {l : List AV} (h : ¬ n = a) (h2 : ¬ n < a) : mset k n v (.agg [.int kk a, x] :: l) = .agg [.int kk a, x] :: mset k n v l := by simp [mset, keyOf, h, h2]
theorem ents_cons {k' : IntKind} {b : Int} {x : AV} {l : List AV} {es : List MapEntry} (hv : VRs m S w (flatL (.agg [.int k' b, x] :: l)) (es.flatMap kvE)) :
  ∃ e1 es', es = e1 :: es' ∧ keyV e1.key = .int k' b ∧ VR m S w x e1.val ∧ VRs m S w (flatL l) (es'.flatMap kvE) := by
 cases es with
 | nil => have := hv.1; simp [flatL, AV.cells] at this
 | cons e1 es' =>
  simp only [flatL, List.flatMap_cons, AV.cells, kvE, List.cons_append, List.nil_append] at hv
  refine ⟨e1, es', rfl, (hv.2 0 _ _ rfl rfl).of_int, hv.2 1 _ _ rfl rfl, ?_⟩
  have := hv.drop 2
  simpa [flatL, kvE] using this
theorem ents_nil {es : List MapEntry} (hv : VRs m S w (flatL []) (es.flatMap kvE)) : es = [] := by
 cases es with
 | nil => rfl
 | cons e1 es' => have := hv.1; simp [flatL, kvE] at this
theorem keys_E {kk : IntKind} : ∀ {l : List AV} {E : List MapEntry}, keysOk kk l = true → VRs m S w (flatL l) (E.flatMap kvE) → ∀ e ∈ E, ∃ a, keyV e.key = .int kk a := by
 intro l
 induction l with
 | nil =>
  intro E _ hv e he
  rw [ents_nil hv] at he
  cases he
 | cons y l ih =>
  intro E hk hv e he
  simp only [keysOk, List.all_cons, Bool.and_eq_true] at hk
  obtain ⟨a, x, rfl⟩ := keyOk_spec hk.1
  obtain ⟨e1, E', rfl, h1, h2, h3⟩ := ents_cons hv
  rcases List.mem_cons.1 he with rfl | he
  ·exact ⟨a, h1⟩
  ·exact ih hk.2 h3 e he
theorem mget_E {kk : IntKind} {n : Int} : ∀ {l : List AV} {E : List MapEntry}, keysOk kk l = true → VRs m S w (flatL l) (E.flatMap kvE) →
  (mget n l = none ∧ ∀ e ∈ E, keyV e.key ≠ .int kk n) ∨ ∃ x e, mget n l = some x ∧ e ∈ E ∧ keyV e.key = .int kk n ∧ VR m S w x e.val := by
 intro l
 induction l with
 | nil =>
  intro E _ hv
  rw [ents_nil hv]
  exact .inl ⟨rfl, fun e he => by cases he⟩
 | cons y l ih =>
  intro E hk hv
  simp only [keysOk, List.all_cons, Bool.and_eq_true] at hk
  obtain ⟨a, x, rfl⟩ := keyOk_spec hk.1
  obtain ⟨e1, E', rfl, h1, h2, h3⟩ := ents_cons hv
  by_cases hn : n = a
  ·rw [mget_pos hn]
   exact .inr ⟨x, e1, rfl, by simp, by rw [h1, hn], h2⟩
  ·rw [mget_neg hn]
   rcases ih hk.2 h3 with ⟨p, q⟩ | ⟨x', e, p, q, r⟩
   ·refine .inl ⟨p, fun e he => ?_⟩
    rcases List.mem_cons.1 he with rfl | he
    ·rw [h1]; intro hh; cases hh; exact hn rfl
    ·exact q e he
   ·exact .inr ⟨x', e, p, List.mem_cons_of_mem _ q, r⟩
theorem kv_len : ∀ E : List MapEntry, (E.flatMap kvE).length = E.length * 2
 | [] => rfl
 | e :: E => by simp only [List.flatMap_cons, List.length_append, kv_len E, kvE, List.length_cons, List.length_nil]; omega
theorem kvM_len {mk : Option Nat} : ∀ E : List MapEntry, (E.flatMap (kvM mk)).length = E.length * 2
 | [] => rfl
 | e :: E => by simp only [List.flatMap_cons, List.length_append, kvM_len E, kvM, List.length_cons, List.length_nil]; omega
theorem mset_E {kk : IntKind} {n : Int} {v : AV} {e' : MapEntry} (hek : keyV e'.key = .int kk n) (hev : VR m S w v e'.val) (hone : v.one = true) : ∀ {l : List AV} {E : List MapEntry}, keysOk kk l = true → okL 2 l → VRs m S w (flatL l) (E.flatMap kvE) → SortE E →
  ∃ E', VRs m S w (flatL (mset kk n v l)) (E'.flatMap kvE) ∧ SortE E' ∧ okL 2 (mset kk n v l) ∧ (mset kk n v l).length = E'.length ∧ (∀ x ∈ E', x = e' ∨ x ∈ E) ∧
   ((∃ A B e, E = A ++ e :: B ∧ keyV e.key = .int kk n ∧ E' = A ++ e' :: B) ∨ ((∀ e ∈ E, keyV e.key ≠ .int kk n) ∧ ∃ A B, E = A ++ B ∧ E' = A ++ e' :: B)) := by
 have hokn : okE 2 (.agg [.int kk n, v]) := ⟨by simp [AV.flat, AV.one]; exact hone, rfl⟩
 have hkn : keyN e' = n := by simp [keyN, hek]
 have hcons : ∀ {l : List AV} {E : List MapEntry}, VRs m S w (flatL l) (E.flatMap kvE) → VRs m S w (flatL (.agg [.int kk n, v] :: l)) ((e' :: E).flatMap kvE) := fun h => by
  simp only [flatL, List.flatMap_cons, AV.cells, kvE, List.cons_append, List.nil_append, hek]
  exact (h.cons hev).cons (.pure (.int kk n))
 intro l
 induction l with
 | nil =>
  intro E _ _ hv _
  obtain rfl := ents_nil hv
  refine ⟨[e'], hcons hv, List.pairwise_singleton _ _, fun y hy => ?_, rfl, fun x hx => .inl ?_, .inr ⟨fun e he => (by cases he), [], [], rfl, rfl⟩⟩
  ·simp only [mset, List.mem_singleton] at hy; rw [hy]; exact hokn
  ·rwa [List.mem_singleton] at hx
 | cons y l ih =>
  intro E hk hok hv hs
  simp only [keysOk, List.all_cons, Bool.and_eq_true] at hk
  obtain ⟨a, x, rfl⟩ := keyOk_spec hk.1
  obtain ⟨e1, E', rfl, h1, h2, h3⟩ := ents_cons hv
  have hk1 : keyN e1 = a := by simp [keyN, h1]
  have hs2 := List.pairwise_cons.1 hs
  have hall := keys_E hk.2 h3
  by_cases hn : n = a
  ·rw [mset_eq hn]
   refine ⟨e' :: E', hcons h3, List.pairwise_cons.2 ⟨fun b hb => ?_, hs2.2⟩, fun y hy => ?_, ?_, fun z hz => ?_, .inl ⟨[], E', e1, rfl, by rw [h1, hn], rfl⟩⟩
   ·rw [hkn, hn, ← hk1]; exact hs2.1 b hb
   ·rcases List.mem_cons.1 hy with rfl | hy
    ·exact hokn
    ·exact hok y (List.mem_cons_of_mem _ hy)
   ·have q1 := h3.1
    have q2 := flatL_length (fun y hy => hok y (List.mem_cons_of_mem _ hy) : okL 2 l)
    rw [kv_len] at q1
    simp only [List.length_cons]; omega
   ·rcases List.mem_cons.1 hz with rfl | hz
    ·exact .inl rfl
    ·exact .inr (List.mem_cons_of_mem _ hz)
  ·have q1 := h3.1
   rw [kv_len] at q1
   have q2 := flatL_length (fun y hy => hok y (List.mem_cons_of_mem _ hy) : okL 2 l)
   by_cases hlt : n < a
   ·rw [mset_lt hlt]
    refine ⟨e' :: e1 :: E', hcons hv, List.pairwise_cons.2 ⟨fun b hb => ?_, hs⟩, fun y hy => ?_, by simp only [List.length_cons]; omega, fun z hz => ?_, .inr ⟨fun b hb => ?_, [], _, rfl, rfl⟩⟩
    ·rcases List.mem_cons.1 hb with rfl | hb
     ·rw [hkn, hk1]; exact hlt
     ·have := hs2.1 b hb; rw [hkn]; rw [hk1] at this; omega
    ·rcases List.mem_cons.1 hy with rfl | hy
     ·exact hokn
     ·exact hok y hy
    ·rcases List.mem_cons.1 hz with rfl | hz
     ·exact .inl rfl
     ·exact .inr hz
    ·intro hb2
     rcases List.mem_cons.1 hb with rfl | hb
     ·rw [h1] at hb2; cases hb2; exact hn rfl
     ·have := hs2.1 b hb
      simp only [keyN, hb2, h1] at this
      omega
   ·rw [mset_gt hn hlt]
    obtain ⟨E2, p1, p2, p3, p4, p5, p6⟩ := ih hk.2 (fun y hy => hok y (List.mem_cons_of_mem _ hy)) h3 hs2.2
    refine ⟨e1 :: E2, ?_, List.pairwise_cons.2 ⟨fun b hb => ?_, p2⟩, fun y hy => ?_, by simp only [List.length_cons]; omega, fun z hz => ?_, ?_⟩
    ·simp only [flatL, List.flatMap_cons, AV.cells, kvE, List.cons_append, List.nil_append, h1]
     exact (VRs.cons (.pure (.int kk a)) (VRs.cons h2 p1))
    ·rcases p5 b hb with h | hb'
     ·rw [h, hkn, hk1]; omega
     ·exact hs2.1 b hb'
    ·rcases List.mem_cons.1 hy with rfl | hy
     ·exact hok _ (List.mem_cons_self ..)
     ·exact p3 y hy
    ·rcases List.mem_cons.1 hz with rfl | hz
     ·exact .inr (List.mem_cons_self ..)
     ·rcases p5 z hz with h | hb'
      ·exact .inl h
      ·exact .inr (List.mem_cons_of_mem _ hb')
    ·rcases p6 with ⟨A, B, e, rfl, q, rfl⟩ | ⟨q, A, B, rfl, rfl⟩
     ·exact .inl ⟨e1 :: A, B, e, rfl, q, rfl⟩
     ·refine .inr ⟨fun b hb => ?_, e1 :: A, B, rfl, rfl⟩
      rcases List.mem_cons.1 hb with rfl | hb
      ·rw [h1]; intro hh; cases hh; exact hn rfl
      ·exact q b hb
theorem kOk_ne {kk : IntKind} (h : kOk kk = true) : kk ≠ .u8 ∧ kk ≠ .u16 := ⟨fun e => (by subst e; cases h), fun e => (by subst e; cases h)⟩
theorem keys_I {kk : IntKind} {E : List MapEntry} (hkk : kk ≠ .u8) (hG : ∀ e ∈ E, keyG e.key) (h : ∀ e ∈ E, ∃ a, keyV e.key = .int kk a) : ∀ e ∈ E, ∃ a, e.key = .int kk a := fun e he => by
 obtain ⟨a, ha⟩ := h e he
 exact ⟨a, (hG e he).one ha hkk⟩
theorem ents_consM {mk : Option Nat} {k' : IntKind} {b : Int} {x : AV} {l : List AV} {es : List MapEntry} (hv : VRs m S w (flatL (.agg [.int k' b, x] :: l)) (es.flatMap (kvM mk))) :
  ∃ e1 es', es = e1 :: es' ∧ penV mk e1.born (keyV e1.key) = .int k' b ∧ VR m S w x e1.val ∧ VRs m S w (flatL l) (es'.flatMap (kvM mk)) := by
 cases es with
 | nil => have := hv.1; simp [flatL, AV.cells] at this
 | cons e1 es' =>
  simp only [flatL, List.flatMap_cons, AV.cells, kvM, List.cons_append, List.nil_append] at hv
  refine ⟨e1, es', rfl, (hv.2 0 _ _ rfl rfl).of_int, hv.2 1 _ _ rfl rfl, ?_⟩
  have := hv.drop 2
  simpa [flatL, kvM] using this
theorem ents_nilM {mk : Option Nat} {es : List MapEntry} (hv : VRs m S w (flatL []) (es.flatMap (kvM mk))) : es = [] := by
 cases es with
 | nil => rfl
 | cons e1 es' => have := hv.1; simp [flatL, kvM] at this
theorem penV_ne {mk : Option Nat} {b : Nat} {v : Value} {kk : IntKind} {a : Int} (h : penV mk b v = .int kk a) (hk : kk ≠ .u16) : v = .int kk a := by
 unfold penV at h
 split at h
 ·split at h
  ·cases h; exact absurd rfl hk
  ·exact h
 ·exact h
theorem kvM_of {mk : Option Nat} {e : MapEntry} {kk : IntKind} {a : Int} (h : penV mk e.born (keyV e.key) = .int kk a) (hk : kk ≠ .u16) : kvM mk e = kvE e := by
 unfold kvM kvE
 rw [h, penV_ne h hk]
theorem unpend {mk : Option Nat} {kk : IntKind} (hk : kk ≠ .u16) : ∀ {l : List AV} {E : List MapEntry}, keysOk kk l = true → VRs m S w (flatL l) (E.flatMap (kvM mk)) → E.flatMap (kvM mk) = E.flatMap kvE := by
 intro l
 induction l with
 | nil =>
  intro E _ hv
  rw [ents_nilM hv]
  rfl
 | cons y l ih =>
  intro E hko hv
  simp only [keysOk, List.all_cons, Bool.and_eq_true] at hko
  obtain ⟨a, x, rfl⟩ := keyOk_spec hko.1
  obtain ⟨e1, E', rfl, h1, h2, h3⟩ := ents_consM hv
  simp only [List.flatMap_cons, kvM_of h1 hk, ih hko.2 h3]
theorem map_at0 (hS : Sim m S σ w) {id g : Nat} {v : Value} (hv : VR m S w (.mapo id g) v) {ob : AObj} (ho : σ.ob id = some ob) (hg : ob.g = g) :
  ∃ b ents clock E mk, v = .map (some b) ∧ m ob.g = some (.slice (some ⟨b, 0, some 0⟩) 0 0) ∧ w.heap[b]? = some (.map ents clock) ∧ List.Perm E ents.toList ∧ SortE E ∧ VRs m S w (flatL ob.l) (E.flatMap (kvM mk)) ∧ okL 2 ob.l ∧ ob.es = 2 ∧ ob.ty = mapTy ∧ ob.ap = false ∧ (∀ e ∈ E, keyG e.key) ∧ Go.MapKept.Stamped ents clock := by
 cases hv with
 | pure h => cases h
 | mapo hm =>
  obtain ⟨u, h1, ⟨hok, hes, xs, hown, hxs⟩, _⟩ := hS.obj id ob ho
  rw [hg, hm] at h1
  obtain rfl := Option.some.inj h1
  rcases hown with hown | ⟨e1, e2, e3, g1, ents, clock, e4, hh, hst, E, mk, hp, hl, rfl, hs, hG⟩
  ·rcases hown.2 with ⟨h, _⟩ | ⟨_, _, _, _, _, h, _⟩ <;> cases h
  ·cases e4
   exact ⟨_, ents, clock, E, mk, rfl, by rw [hg]; exact hm, hh, hp, hs, hxs, by rw [← e2]; exact hok, e2, e1, e3, hG, hst⟩
theorem map_at (hS : Sim m S σ w) {id g : Nat} {v : Value} (hv : VR m S w (.mapo id g) v) {ob : AObj} (ho : σ.ob id = some ob) (hg : ob.g = g) {kk : IntKind} (hk : kk ≠ .u16) (hko : keysOk kk ob.l = true) :
  ∃ b ents clock E, v = .map (some b) ∧ m ob.g = some (.slice (some ⟨b, 0, some 0⟩) 0 0) ∧ w.heap[b]? = some (.map ents clock) ∧ List.Perm E ents.toList ∧ SortE E ∧ VRs m S w (flatL ob.l) (E.flatMap kvE) ∧ okL 2 ob.l ∧ ob.es = 2 ∧ ob.ty = mapTy ∧ ob.ap = false ∧ (∀ e ∈ E, keyG e.key) ∧ Go.MapKept.Stamped ents clock := by
 obtain ⟨b, ents, clock, E, mk, h1, h2, h3, h4, h5, h6, h7⟩ := map_at0 hS hv ho hg
 exact ⟨b, ents, clock, E, h1, h2, h3, h4, h5, by rw [← unpend hk hko h6]; exact h6, h7⟩
theorem key_unique {kk : IntKind} {n : Int} : ∀ {E : List MapEntry}, SortE E → ∀ {a b : MapEntry}, a ∈ E → b ∈ E → keyV a.key = .int kk n → keyV b.key = .int kk n → a = b
 | [], _, _, _, ha, _, _, _ => by cases ha
 | e :: E, hs, a, b, ha, hb, h1, h2 => by
  have h := List.pairwise_cons.1 hs
  rcases List.mem_cons.1 ha with ha2 | ha2
  ·rcases List.mem_cons.1 hb with hb2 | hb2
   ·rw [ha2, hb2]
   ·have := h.1 b hb2; rw [← ha2] at this; simp [keyN, h1, h2] at this
  ·rcases List.mem_cons.1 hb with hb2 | hb2
   ·have := h.1 a ha2; rw [← hb2] at this; simp [keyN, h1, h2] at this
   ·exact key_unique h.2 ha2 hb2 h1 h2
theorem getMap {b : Nat} {es : Array MapEntry} {clock : Nat} (hb : w.heap[b]? = some (.map es clock)) : (getObj b).run P w = .ok (.map es clock) w := by
 simp [getObj, Sem.run, hb]
theorem setMap {b : Nat} {es : Array MapEntry} {clock : Nat} {o : Obj} (hb : w.heap[b]? = some (.map es clock)) : (setObj b o).run P w = .ok () { w with heap := w.heap.setIfInBounds b o } := by
 simp [setObj, Sem.run, hb]
theorem run_checkInt {kt : TypeId} {kq kk : IntKind} {n : Int} (hd : P.underlying kt = some (.int kq)) (em : Bool) (w : World) : (Instr.checkKey em 10000 kt (.int kk n)).run P w = .ok () w := by
 unfold Instr.checkKey
 simp only [Sem.run_bind, run_underlying hd, Result.andThen]
 rfl
theorem VR.of_nilmap {v : Value} (h : VR m S w .nilmap v) : v = .map none := by
 cases h with | pure h => cases h; rfl
theorem run_zero {t : TypeId} {i : TypeInfo} {z : Value} (hi : P.info? t = some i) (hz : i.zero = some z) (w : World) : (zeroValue t).run P w = .ok z w := by
 simp [zeroValue, typeInfo, hi, hz]
theorem s_mapget {t k el : TypeId} {kq : IntKind} {i : TypeInfo} {z0 : Value} {z : AV} {ok : Bool} {x ix : Operand} {y q : AX} (hI : Inv W O S0 m S σ w) (hE : EnvR m S w e a.tmps) (ho : o.op = .lookup t x ix ok)
  (hu : P.underlying t = some (.map k el)) (huk : P.underlying k = some (.int kq)) (hi : P.info? el = some i) (hz0 : i.zero = some z0) (hz : av z0 = some z) (h1 : ax x = some y) (h2 : ax ix = some q)
  (h : run1 (HC P) (.mapget ok z y q) e σ K) : o.wp P a w (Good W O S0 m S w g0 o a K) Q := by
 have hx := ax_sound hE h1
 have hq := ax_sound hE h2
 have hzv : VP S w z z0 := av_sound hz
 simp only [run1] at h
 generalize g0_ : y.ev e = G0_ at h
 generalize g1_ : q.ev e = G1_ at h
 unfold mapgetC at h
 have res : ∀ (u : Value) (bb : Bool) (r : Option AV), r.isSome = bb → VR m S w (r.getD z) u → VR m S w (mgetR ok z r) (if ok then .tuple #[u, .bool bb] else u) := by
  intro u bb r hr hu
  subst hr
  unfold mgetR
  cases ok
  ·exact hu
  ·exact .mk_tuple (VRs.nil.cons (.pure (.bool _)) |>.cons hu)
 split at h
 ·rename_i id g kk n
  rw [g0_] at hx; rw [g1_] at hq
  have hq := hq.of_int
  obtain ⟨hkk, ob, hob, hg, hko, hK⟩ := h
  obtain ⟨hkk, hk16⟩ := kOk_ne hkk
  obtain ⟨b, ents, clock, E, e1, hm, hh, hp, hs, hvs, _, _, _, _, hG, _⟩ := map_at hI.sim hx hob hg hk16 hko
  have hck : ∀ em, (Instr.checkKey em 10000 k (.int kk n)).run P w = .ok () w := fun em => run_checkInt huk em w
  have hkeys := keys_I hkk hG (keys_E hko hvs)
  rcases findNow_spec (K := kq) (kk := kk) (n := n) ents.toList 0 (fun e he => hkeys e (hp.mem_iff.2 he)) with ⟨hf, hno⟩ | ⟨j, e', hf, hj, hk⟩
  ·have hr : mget n ob.l = none := by
    rcases mget_E (n := n) hko hvs with ⟨h, _⟩ | ⟨x', e', _, h2, h3, _⟩
    ·exact h
    ·exact absurd ((hG e' h2).one h3 hkk) (hno e' (hp.mem_iff.1 h2))
   rw [hr] at hK
   refine good_same hI ?_ hK (res z0 false none rfl (.pure hzv))
   have hfk := run_findKey (w := w) huk hf
   simp [execOp, ho, Instr.lookup, run_underlying hu, e1, hq, getMap hh, hck, hfk, run_zero hi hz0]
  ·have he' : e' ∈ E := hp.mem_iff.2 (List.mem_of_getElem? hj)
   obtain ⟨x1, hr, hxu⟩ : ∃ x1, mget n ob.l = some x1 ∧ VR m S w x1 e'.val := by
    rcases mget_E (n := n) hko hvs with ⟨_, h⟩ | ⟨x', e2, h1, h2, h3, h4⟩
    ·exact absurd (by rw [hk]; rfl) (h e' he')
    ·have := key_unique hs he' h2 (show keyV e'.key = .int kk n by rw [hk]; rfl) h3
     subst this
     exact ⟨x', h1, h4⟩
   rw [hr] at hK
   refine good_same hI ?_ hK (res e'.val true (some x1) rfl hxu)
   have hfk := run_findKey (w := w) huk hf
   simp [execOp, ho, Instr.lookup, run_underlying hu, e1, hq, getMap hh, hck, hfk]
 ·rename_i kk n
  rw [g0_] at hx; rw [g1_] at hq
  have hq := hq.of_int
  have e1 : a.eval x = .map none := hx.of_nilmap
  have hck : ∀ em, (Instr.checkKey em 10000 k (.int kk n)).run P w = .ok () w := fun em => run_checkInt huk em w
  have hfk := run_findKey (w := w) (l := []) (k := .int kk n) (a := none) huk rfl
  refine good_same hI ?_ h (res z0 false none rfl (.pure hzv))
  simp [execOp, ho, Instr.lookup, run_underlying hu, e1, hq, hck, hfk, run_zero hi hz0]
 ·exact h.elim
theorem s_mapset {t k el : TypeId} {kq : IntKind} {mo ix x : Operand} {y q v : AX} (hI : Inv W O S0 m S σ w) (hE : EnvR m S w e a.tmps) (ho : o.op = .mapUpdate t mo ix x ∨ o.op = .insert t mo ix x)
  (hu : P.underlying t = some (.map k el)) (huk : P.underlying k = some (.int kq)) (h1 : ax mo = some y) (h2 : ax ix = some q) (h3 : ax x = some v)
  (h : run1 (HC P) (.mapset y q v) e σ K) : o.wp P a w (Good W O S0 m S w g0 o a K) Q := by
 have hx := ax_sound hE h1
 have hq := ax_sound hE h2
 have hv := ax_sound hE h3
 simp only [run1] at h
 generalize g0_ : y.ev e = G0_ at h
 generalize g1_ : q.ev e = G1_ at h
 unfold mapsetC at h
 split at h
 ·rename_i id g kk n
  rw [g0_] at hx; rw [g1_] at hq
  have hq' := hq.of_int
  obtain ⟨hone, hkk, ob, hob, hg, hro, hko, hK⟩ := h
  obtain ⟨hkk, hk16⟩ := kOk_ne hkk
  obtain ⟨b, ents, clock, E, e1, hm, hh, hp, hs, hvs, hok, hes, hty, hap, hG, hst⟩ := map_at hI.sim hx hob hg hk16 hko
  have hck : ∀ em, (Instr.checkKey em 10000 k (.int kk n)).run P w = .ok () w := fun em => run_checkInt huk em w
  have hkeys := keys_I hkk hG (keys_E hko hvs)
  have hb : b < w.heap.size := (Array.getElem?_eq_some_iff.1 hh).1
  have fin : ∀ (e' : MapEntry) (ents' : Array MapEntry) (clock' : Nat), e'.key = .int kk n → e'.val = a.eval x → Go.MapKept.Stamped ents' clock' → (Instr.mapUpdate t (.map (some b)) (.int kk n) (a.eval x)).run P w = .ok () { w with heap := w.heap.setIfInBounds b (.map ents' clock') } →
    (∀ E', ((∃ A B e, E = A ++ e :: B ∧ keyV e.key = .int kk n ∧ E' = A ++ e' :: B) ∨ ((∀ e ∈ E, keyV e.key ≠ .int kk n) ∧ ∃ A B, E = A ++ B ∧ E' = A ++ e' :: B)) → List.Perm E' ents'.toList) → o.wp P a w (Good W O S0 m S w g0 o a K) Q := by
   intro e' ents' clock' hek hev hst' hrun hperm
   obtain ⟨E', p1, p2, p3, p4, p5, p6⟩ := mset_E (v := v.ev e) (show keyV e'.key = .int kk n by rw [hek]; rfl) (by rw [hev]; exact hv) hone hko hok hvs hs
   obtain ⟨q1, q2⟩ := hI.putW hob hro hm rfl (w' := { w with heap := w.heap.setIfInBounds b (.map ents' clock') }) rfl rfl rfl (by simp) (fun k hk => by simp [Array.getElem?_setIfInBounds, Ne.symm hk]) (by rw [hes]; exact p3) (by omega)
    (.inr ⟨hty, hes, hap, b, ents', clock', rfl, by simp [hb], hst', E', none, hperm E' p6, p4.symm, rfl, p2, fun x hx => by rcases p5 x hx with rfl | hx; exact .inl ⟨kk, n, hek, hkk, hk16⟩; exact hG x hx⟩) p1
   have hrun2 : (execOp a.eval o).run P w = .ok .skip { w with heap := w.heap.setIfInBounds b (.map ents' clock') } := by
    rcases ho with ho | ho <;> simp [execOp, ho, e1, hq', hrun]
   unfold Oper.wp
   rw [hrun2, Oper.upon_skip]
   exact ⟨.junk, _, m, S, undef, rfl, hK, q1, q2, .junk _, .inl fun _ _ => rfl⟩
  rcases findNow_spec (K := kq) (kk := kk) (n := n) ents.toList 0 (fun e he => hkeys e (hp.mem_iff.2 he)) with ⟨hf, hno⟩ | ⟨j, e2, hf, hj, hk⟩
  ·have hfk := run_findKey (w := w) huk hf
   refine fin { key := .int kk n, val := a.eval x, born := clock } (ents.push { key := .int kk n, val := a.eval x, born := clock }) (clock + 1) rfl rfl (Go.MapKept.stamped_push hst hno) ?_ fun E' h => ?_
   ·simp [Instr.mapUpdate, run_underlying hu, getMap hh, hck, hfk, setMap hh]
   ·rcases h with ⟨A, B, e', rfl, hk, rfl⟩ | ⟨_, A, B, rfl, rfl⟩
    ·exact absurd ((hG e' (by simp)).one hk hkk) (hno e' (hp.mem_iff.1 (by simp)))
    ·rw [Array.toList_push]
     exact (List.perm_middle.trans (List.Perm.cons _ hp)).trans (List.perm_append_comm (l₁ := [_]))
  ·have hfk := run_findKey (w := w) huk hf
   rw [Nat.zero_add] at hfk
   have hjs : j < ents.toList.length := (List.getElem?_eq_some_iff.1 hj).1
   have hj2 : ents[j]? = some e2 := by rw [← Array.getElem?_toList]; exact hj
   have he2 : e2 ∈ E := hp.mem_iff.2 (List.mem_of_getElem? hj)
   refine fin { e2 with key := .int kk n, val := a.eval x } (ents.modify j fun e => { e with key := .int kk n, val := a.eval x }) clock rfl rfl (Go.MapKept.stamped_modify hst j _ (fun _ _ => rfl) fun e _ he => by rw [hj2] at he; cases he; exact hk.symm) ?_ fun E' h => ?_
   ·have hsb : Instr.sameBits 10000 (.int kk n) (.int kk n) = true := by simp [Instr.sameBits]
    simp [Instr.mapUpdate, run_underlying hu, getMap hh, hck, hfk, hj2, hk, Instr.keyThatStays, hsb, setMap hh]
   ·rcases h with ⟨A, B, e', rfl, hk', rfl⟩ | ⟨h, _⟩
    ·have := key_unique hs he2 (show e' ∈ A ++ e' :: B by simp) (show keyV e2.key = .int kk n by rw [hk]; rfl) hk'
     subst this
     have h1 : ents.toList = ents.toList.take j ++ e2 :: ents.toList.drop (j + 1) := by
      rw [← (List.getElem?_eq_some_iff.1 hj).2, List.getElem_cons_drop, List.take_append_drop]
     have h2 : (ents.modify j fun e => { e with key := .int kk n, val := a.eval x }).toList = ents.toList.take j ++ { e2 with key := .int kk n, val := a.eval x } :: ents.toList.drop (j + 1) := by
      rw [Array.toList_modify, List.modify_eq_take_cons_drop hjs, (List.getElem?_eq_some_iff.1 hj).2]
     rw [h2]
     rw [h1] at hp
     have h3 : List.Perm (A ++ B) (ents.toList.take j ++ ents.toList.drop (j + 1)) := List.Perm.cons_inv ((List.perm_middle.symm.trans hp).trans List.perm_middle)
     exact (List.perm_middle.trans (List.Perm.cons _ h3)).trans List.perm_middle.symm
    ·exact absurd (by rw [hk]; rfl) (h e2 he2)
 ·exact h.elim
theorem pairT_spec {k : TypeId} (h : pairT P k = true) : ∃ f0 f1 d0 d1, P.underlying k = some (.struct #[f0, f1]) ∧ f0.offset = 0 ∧ f1.offset = 1 ∧ P.underlying f0.type = some (.int d0) ∧ P.underlying f1.type = some (.int d1) ∧ flatK P 5 k = some [0, 0] := by
 unfold pairT at h
 split at h
 ·rename_i fs hu
  simp only [Bool.and_eq_true, beq_iff_eq, List.all_eq_true] at h
  obtain ⟨hk, hall⟩ := h
  have hint : ∀ f ∈ fs.toList, ∃ d, P.underlying f.type = some (.int d) := fun f hf => by
   have := hall f hf
   split at this
   ·exact ⟨_, ‹_›⟩
   ·cases this
  have hk0 := hk
  have e5 : flatK P 5 k = if P.stoodInHeld k then none else flatFs P (flatK P 4) 0 fs.toList := by
   show flatK P (4 + 1) k = _
   rw [flatK.eq_2, hu]
  rw [e5] at hk
  split at hk
  ·cases hk
  ·obtain ⟨l, hl⟩ : ∃ l, fs.toList = l := ⟨_, rfl⟩
   have one : ∀ {f : Field} {d}, P.underlying f.type = some (.int d) → flatK P 4 f.type = some [0] := fun hd => by simp [flatK, hd]
   rw [hl] at hk hint
   match l with
   | [] => simp [flatFs] at hk
   | [f0] =>
    obtain ⟨d0, h0⟩ := hint f0 (by simp)
    simp only [flatFs, one h0] at hk
    split at hk
    ·split at hk <;> simp at hk
    ·cases hk
   | [f0, f1] =>
    obtain ⟨d0, h0⟩ := hint f0 (by simp)
    obtain ⟨d1, h1⟩ := hint f1 (by simp)
    simp only [flatFs, one h0, one h1] at hk
    split at hk
    ·rename_i q0
     split at hk
     ·split at hk
      ·rename_i q1
       simp only [Bool.and_eq_true, beq_iff_eq] at q0 q1
       refine ⟨f0, f1, d0, d1, ?_, q0.1, by simpa using q1.1, h0, h1, hk0⟩
       rw [hu]
       congr 2
       exact Array.ext' hl
      ·simp at hk
     ·cases hk
    ·cases hk
   | f0 :: f1 :: f2 :: r =>
    obtain ⟨d0, h0⟩ := hint f0 (by simp)
    obtain ⟨d1, h1⟩ := hint f1 (by simp)
    obtain ⟨d2, h2⟩ := hint f2 (by simp)
    have step : ∀ {f : Field} {i : Nat} {l : List Field} {ks : List Nat}, flatK P 4 f.type = some [0] → flatFs P (flatK P 4) i (f :: l) = some ks → ∃ r, flatFs P (flatK P 4) (i + 1) l = some r ∧ ks = 0 :: r := by
     intro f i l ks h1 h2
     simp only [flatFs, h1] at h2
     split at h2
     ·split at h2
      ·obtain ⟨r, hr, rfl⟩ := Option.map_eq_some_iff.1 h2
       exact ⟨r, hr, rfl⟩
      ·cases h2
     ·cases h2
    obtain ⟨r0, q0, e0⟩ := step (one h0) hk
    obtain ⟨r1, q1, e1⟩ := step (one h1) q0
    obtain ⟨r2, q2, e2⟩ := step (one h2) q1
    rw [e1, e2] at e0
    simp at e0
 ·cases h
theorem run_checkPair {kt : TypeId} (hp : pairT P kt = true) (a b : Int) (em : Bool) (w : World) : (Instr.checkKey em 10000 kt (.agg #[.int .i64 a, .int .i64 b])).run P w = .ok () w := by
 obtain ⟨f0, f1, d0, d1, hu, ho0, ho1, h0, h1, _⟩ := pairT_spec hp
 have c0 : ∀ (f : Field) (d : IntKind) (n : Int), P.underlying f.type = some (.int d) → (Instr.checkKey em 9999 f.type (.int .i64 n)).run P w = .ok () w := fun f d n hd => by
  unfold Instr.checkKey
  simp only [Sem.run_bind, run_underlying hd, Result.andThen]
  rfl
 have p0 : (part f0.type #[.int .i64 a, .int .i64 b] f0.offset).run P w = .ok (.int .i64 a) w := by simp [part, run_isAgg h0, isAggD, ho0]
 have p1 : (part f1.type #[.int .i64 a, .int .i64 b] f1.offset).run P w = .ok (.int .i64 b) w := by simp [part, run_isAgg h1, isAggD, ho1]
 unfold Instr.checkKey
 by_cases n0 : f0.name = "_" <;> by_cases n1 : f1.name = "_" <;> simp [run_underlying hu, p0, p1, c0 f0 d0 a h0, c0 f1 d1 b h1, n0, n1]
theorem run_eqPair {kt : TypeId} (hp : pairT P kt = true) (a b c d : Int) (w : World) : (Op.equal kt (.agg #[.int .i64 a, .int .i64 b]) (.agg #[.int .i64 c, .int .i64 d])).run P w = .ok (decide (a = c) && decide (b = d)) w := by
 obtain ⟨f0, f1, d0, d1, hu, _, _, _, _, hk⟩ := pairT_spec hp
 have v : ∀ x y : Int, VRs (fun _ => none) (fun _ => False) w [.int .i64 x, .int .i64 y] #[Value.int .i64 x, .int .i64 y].toList := fun x y => (VRs.nil.cons (.pure (.int .i64 y))).cons (.pure (.int .i64 x))
 have := (equalIn_sound (P := P) 5 9999 kt [0, 0] _ _ _ _ (decide (a = c) && (decide (b = d) && true)) (by omega) hk (v a b) (v c d) (by simp [eqA])).1 _ hu
 rw [Bool.and_true] at this
 exact this
theorem findPair {kt : TypeId} (hp : pairT P kt = true) (a b : Int) (w : World) : ∀ (es : List MapEntry) (i : Nat), (∀ e ∈ es, ∃ c d, e.key = .agg #[.int .i64 c, .int .i64 d]) →
  ((Instr.findAsking kt (.agg #[.int .i64 a, .int .i64 b]) es i).run P w = .ok none w ∧ ∀ e ∈ es, keyV e.key ≠ .int .u8 (pr a b)) ∨
   ∃ j e, (Instr.findAsking kt (.agg #[.int .i64 a, .int .i64 b]) es i).run P w = .ok (some (i + j, e.val)) w ∧ es[j]? = some e ∧ e.key = .agg #[.int .i64 a, .int .i64 b]
 | [], i, _ => .inl ⟨rfl, fun e h => by simp at h⟩
 | e1 :: es, i, h => by
  obtain ⟨c, d, hcd⟩ := h e1 (by simp)
  have hs : (Instr.findAsking kt (.agg #[.int .i64 a, .int .i64 b]) (e1 :: es) i).run P w = if a = c ∧ b = d then .ok (some (i, e1.val)) w else (Instr.findAsking kt (.agg #[.int .i64 a, .int .i64 b]) es (i + 1)).run P w := by
   simp only [Instr.findAsking, hcd, Sem.run_bind, run_eqPair hp, Result.andThen_ok]
   by_cases h1 : a = c <;> by_cases h2 : b = d <;> simp [h1, h2]
  rw [hs]
  by_cases hn : a = c ∧ b = d
  ·rw [if_pos hn]
   exact .inr ⟨0, e1, rfl, rfl, by rw [hcd, hn.1, hn.2]⟩
  ·rw [if_neg hn]
   rcases findPair hp a b w es (i + 1) (fun e he => h e (by simp [he])) with ⟨h1, h2⟩ | ⟨j, e, h1, h2, h3⟩
   ·refine .inl ⟨h1, fun e he => ?_⟩
    rcases List.mem_cons.1 he with rfl | he
    ·rw [hcd]; intro hh
     simp only [keyV, Value.int.injEq, true_and] at hh
     obtain ⟨q1, q2⟩ := pr_inj hh
     exact hn ⟨q1.symm, q2.symm⟩
    ·exact h2 e he
   ·exact .inr ⟨j + 1, e, by rw [h1, Nat.add_assoc, Nat.add_comm 1 j], h2, h3⟩
theorem findKeyPair {kt : TypeId} (hp : pairT P kt = true) (a b : Int) (w : World) (es : List MapEntry) (h : ∀ e ∈ es, ∃ c d, e.key = .agg #[.int .i64 c, .int .i64 d]) :
  ((Instr.findKey kt (.agg #[.int .i64 a, .int .i64 b]) es).run P w = .ok none w ∧ ∀ e ∈ es, keyV e.key ≠ .int .u8 (pr a b)) ∨
   ∃ j e, (Instr.findKey kt (.agg #[.int .i64 a, .int .i64 b]) es).run P w = .ok (some (j, e.val)) w ∧ es[j]? = some e ∧ e.key = .agg #[.int .i64 a, .int .i64 b] := by
 obtain ⟨f0, f1, d0, d1, hu, _⟩ := pairT_spec hp
 have key : (Instr.findKey kt (.agg #[.int .i64 a, .int .i64 b]) es).run P w = (Instr.findAsking kt (.agg #[.int .i64 a, .int .i64 b]) es 0).run P w := by
  cases es with
  | nil => simp [Instr.findKey, run_underlying hu, Instr.findNow, Instr.findAsking]
  | cons e es =>
   obtain ⟨c, d, hcd⟩ := h e (by simp)
   simp [Instr.findKey, run_underlying hu, Instr.findNow, hcd, Instr.sameNow]
 rw [key]
 have := findPair hp a b w es 0 h
 simpa using this
theorem keys_P {E : List MapEntry} (hG : ∀ e ∈ E, keyG e.key) (h : ∀ e ∈ E, ∃ a, keyV e.key = .int .u8 a) : ∀ e ∈ E, ∃ c d, e.key = .agg #[.int .i64 c, .int .i64 d] := fun e he => by
 obtain ⟨n, hn⟩ := h e he
 obtain ⟨c, d, h1, _⟩ := (hG e he).two hn
 exact ⟨c, d, h1⟩
theorem keyG.pair {v : Value} {a b : Int} (h : keyG v) (hv : keyV v = .int .u8 (pr a b)) : v = .agg #[.int .i64 a, .int .i64 b] := by
 obtain ⟨c, d, rfl, h2⟩ := h.two hv
 obtain ⟨rfl, rfl⟩ := pr_inj h2
 rfl
theorem keyV_pair (a b : Int) : keyV (.agg #[.int .i64 a, .int .i64 b]) = .int .u8 (pr a b) := rfl
theorem VR.of_pair {a b : Int} {v : Value} (h : VR m S w (.agg [.int .i64 a, .int .i64 b]) v) : v = .agg #[.int .i64 a, .int .i64 b] := by
 obtain ⟨xs, rfl, hx⟩ := h.of_agg
 have h0 := hx.1
 match hl : xs.toList with
 | [x, y] =>
  rw [hl] at hx
  have h1 := (hx.2 0 _ _ rfl rfl).of_int
  have h2 := (hx.2 1 _ _ rfl rfl).of_int
  subst h1; subst h2
  congr 1
  exact Array.ext' hl
 | [] => rw [hl] at h0; simp at h0
 | [_] => rw [hl] at h0; simp at h0
 | _ :: _ :: _ :: _ => rw [hl] at h0; simp at h0
theorem mdel_E {kk : IntKind} {n : Int} : ∀ {l : List AV} {E : List MapEntry}, keysOk kk l = true → okL 2 l → VRs m S w (flatL l) (E.flatMap kvE) →
  ∃ E', VRs m S w (flatL (mdel n l)) (E'.flatMap kvE) ∧ okL 2 (mdel n l) ∧ (mdel n l).length = E'.length ∧ ((∃ A B e, E = A ++ e :: B ∧ keyV e.key = .int kk n ∧ E' = A ++ B) ∨ ((∀ e ∈ E, keyV e.key ≠ .int kk n) ∧ E' = E)) := by
 intro l
 induction l with
 | nil =>
  intro E _ hok hv
  obtain rfl := ents_nil hv
  exact ⟨[], hv, hok, rfl, .inr ⟨fun e he => (by cases he), rfl⟩⟩
 | cons y l ih =>
  intro E hk hok hv
  simp only [keysOk, List.all_cons, Bool.and_eq_true] at hk
  obtain ⟨a, x, rfl⟩ := keyOk_spec hk.1
  obtain ⟨e1, E', rfl, h1, h2, h3⟩ := ents_cons hv
  have hokl : okL 2 l := fun y hy => hok y (List.mem_cons_of_mem _ hy)
  by_cases hn : n = a
  ·have : mdel n (.agg [.int kk a, x] :: l) = l := by simp [mdel, keyOf, hn]
   rw [this]
   refine ⟨E', h3, hokl, ?_, .inl ⟨[], E', e1, rfl, by rw [h1, hn], rfl⟩⟩
   have q1 := h3.1
   have q2 := flatL_length hokl
   rw [kv_len] at q1
   omega
  ·have : mdel n (.agg [.int kk a, x] :: l) = .agg [.int kk a, x] :: mdel n l := by simp [mdel, keyOf, hn]
   rw [this]
   obtain ⟨E2, p1, p2, p3, p4⟩ := ih hk.2 hokl h3
   refine ⟨e1 :: E2, ?_, fun y hy => ?_, by simp only [List.length_cons]; omega, ?_⟩
   ·simp only [flatL, List.flatMap_cons, AV.cells, kvE, List.cons_append, List.nil_append, h1]
    exact (VRs.cons (.pure (.int kk a)) (VRs.cons h2 p1))
   ·rcases List.mem_cons.1 hy with rfl | hy
    ·exact hok _ (List.mem_cons_self ..)
    ·exact p2 y hy
   ·rcases p4 with ⟨A, B, e, rfl, q, rfl⟩ | ⟨q, rfl⟩
    ·exact .inl ⟨e1 :: A, B, e, rfl, q, rfl⟩
    ·refine .inr ⟨fun b hb => ?_, rfl⟩
     rcases List.mem_cons.1 hb with rfl | hb
     ·rw [h1]; intro hh; cases hh; exact hn rfl
     ·exact q b hb
theorem s_mget2 {t k el : TypeId} {i : TypeInfo} {z0 : Value} {z : AV} {ok : Bool} {x ix : Operand} {y q : AX} (hI : Inv W O S0 m S σ w) (hE : EnvR m S w e a.tmps) (ho : o.op = .lookup t x ix ok)
  (hu : P.underlying t = some (.map k el)) (huk : pairT P k = true) (hi : P.info? el = some i) (hz0 : i.zero = some z0) (hz : av z0 = some z) (h1 : ax x = some y) (h2 : ax ix = some q)
  (h : run1 (HC P) (.mp (.get2 ok z) y [q]) e σ K) : o.wp P a w (Good W O S0 m S w g0 o a K) Q := by
 have hx := ax_sound hE h1
 have hq := ax_sound hE h2
 have hzv : VP S w z z0 := av_sound hz
 simp only [run1, evs, List.map_cons, List.map_nil, mpC] at h
 generalize g0_ : y.ev e = G0_ at h
 generalize g1_ : q.ev e = G1_ at h
 rw [g0_] at hx; rw [g1_] at hq
 have res : ∀ (u : Value) (bb : Bool) (r : Option AV), r.isSome = bb → VR m S w (r.getD z) u → VR m S w (mgetR ok z r) (if ok then .tuple #[u, .bool bb] else u) := by
  intro u bb r hr hu
  subst hr
  unfold mgetR
  cases ok
  ·exact hu
  ·exact .mk_tuple (VRs.nil.cons (.pure (.bool _)) |>.cons hu)
 unfold mget2C at h
 split at h
 ·rename_i id g a1 b1
  have hq := hq.of_pair
  obtain ⟨ob, hob, hg, hko, hK⟩ := h
  obtain ⟨b, ents, clock, E, e1, hm, hh, hp, hs, hvs, _, _, _, _, hG, _⟩ := map_at hI.sim hx hob hg (by decide) hko
  have hck : ∀ em, (Instr.checkKey em 10000 k (.agg #[.int .i64 a1, .int .i64 b1])).run P w = .ok () w := fun em => run_checkPair huk a1 b1 em w
  have hkeys := keys_P hG (keys_E hko hvs)
  rcases findKeyPair huk a1 b1 w ents.toList (fun e he => hkeys e (hp.mem_iff.2 he)) with ⟨hfk, hno⟩ | ⟨j, e', hfk, hj, hk⟩
  ·have hr : mget (pr a1 b1) ob.l = none := by
    rcases mget_E (n := pr a1 b1) hko hvs with ⟨h, _⟩ | ⟨x', e', _, h2, h3, _⟩
    ·exact h
    ·exact absurd h3 (hno e' (hp.mem_iff.1 h2))
   rw [hr] at hK
   refine good_same hI ?_ hK (res z0 false none rfl (.pure hzv))
   simp [execOp, ho, Instr.lookup, run_underlying hu, e1, hq, getMap hh, hck, hfk, run_zero hi hz0]
  ·have he' : e' ∈ E := hp.mem_iff.2 (List.mem_of_getElem? hj)
   have hk' : keyV e'.key = .int .u8 (pr a1 b1) := by rw [hk]; rfl
   obtain ⟨x1, hr, hxu⟩ : ∃ x1, mget (pr a1 b1) ob.l = some x1 ∧ VR m S w x1 e'.val := by
    rcases mget_E (n := pr a1 b1) hko hvs with ⟨_, h⟩ | ⟨x', e2, h1, h2, h3, h4⟩
    ·exact absurd hk' (h e' he')
    ·have := key_unique hs he' h2 hk' h3
     subst this
     exact ⟨x', h1, h4⟩
   rw [hr] at hK
   refine good_same hI ?_ hK (res e'.val true (some x1) rfl hxu)
   simp [execOp, ho, Instr.lookup, run_underlying hu, e1, hq, getMap hh, hck, hfk]
 ·rename_i a1 b1
  have hq := hq.of_pair
  have e1 : a.eval x = .map none := hx.of_nilmap
  have hck : ∀ em, (Instr.checkKey em 10000 k (.agg #[.int .i64 a1, .int .i64 b1])).run P w = .ok () w := fun em => run_checkPair huk a1 b1 em w
  have hfk := (findKeyPair huk a1 b1 w [] (fun e he => by cases he)).resolve_right (by rintro ⟨j, e, _, h, _⟩; simp at h)
  refine good_same hI ?_ h (res z0 false none rfl (.pure hzv))
  simp [execOp, ho, Instr.lookup, run_underlying hu, e1, hq, hck, hfk.1, run_zero hi hz0]
 ·exact h.elim
theorem erase_perm {A B : List MapEntry} {e2 : MapEntry} {ents : Array MapEntry} {j : Nat} (hj : ents.toList[j]? = some e2) (hp : List.Perm (A ++ e2 :: B) ents.toList) : List.Perm (A ++ B) (ents.eraseIdxIfInBounds j).toList := by
 have hjs : j < ents.toList.length := (List.getElem?_eq_some_iff.1 hj).1
 have h1 : ents.toList = ents.toList.take j ++ e2 :: ents.toList.drop (j + 1) := by
  rw [← (List.getElem?_eq_some_iff.1 hj).2, List.getElem_cons_drop, List.take_append_drop]
 have h2 : (ents.eraseIdxIfInBounds j).toList = ents.toList.take j ++ ents.toList.drop (j + 1) := by
  unfold Array.eraseIdxIfInBounds
  rw [dif_pos (by simpa using hjs), Array.toList_eraseIdx, List.eraseIdx_eq_take_drop_succ]
 rw [h2]
 rw [h1] at hp
 exact List.Perm.cons_inv ((List.perm_middle.symm.trans hp).trans List.perm_middle)
theorem modify_perm {A B : List MapEntry} {e2 e' : MapEntry} {ents : Array MapEntry} {j : Nat} {f : MapEntry → MapEntry} (hj : ents.toList[j]? = some e2) (hf : f e2 = e') (hp : List.Perm (A ++ e2 :: B) ents.toList) : List.Perm (A ++ e' :: B) (ents.modify j f).toList := by
 have hjs : j < ents.toList.length := (List.getElem?_eq_some_iff.1 hj).1
 have h1 : ents.toList = ents.toList.take j ++ e2 :: ents.toList.drop (j + 1) := by
  rw [← (List.getElem?_eq_some_iff.1 hj).2, List.getElem_cons_drop, List.take_append_drop]
 have h2 : (ents.modify j f).toList = ents.toList.take j ++ e' :: ents.toList.drop (j + 1) := by
  rw [Array.toList_modify, List.modify_eq_take_cons_drop hjs, (List.getElem?_eq_some_iff.1 hj).2, hf]
 rw [h2]
 rw [h1] at hp
 have h3 : List.Perm (A ++ B) (ents.toList.take j ++ ents.toList.drop (j + 1)) := List.Perm.cons_inv ((List.perm_middle.symm.trans hp).trans List.perm_middle)
 exact (List.perm_middle.trans (List.Perm.cons _ h3)).trans List.perm_middle.symm
theorem s_mset2 {t k el : TypeId} {mo ix x : Operand} {y q v : AX} (hI : Inv W O S0 m S σ w) (hE : EnvR m S w e a.tmps) (ho : o.op = .mapUpdate t mo ix x ∨ o.op = .insert t mo ix x)
  (hu : P.underlying t = some (.map k el)) (huk : pairT P k = true) (h1 : ax mo = some y) (h2 : ax ix = some q) (h3 : ax x = some v)
  (h : run1 (HC P) (.mp .set2 y [q, v]) e σ K) : o.wp P a w (Good W O S0 m S w g0 o a K) Q := by
 have hx := ax_sound hE h1
 have hq := ax_sound hE h2
 have hv := ax_sound hE h3
 simp only [run1, evs, List.map_cons, List.map_nil, mpC] at h
 generalize g0_ : y.ev e = G0_ at h
 generalize g1_ : q.ev e = G1_ at h
 generalize g2_ : v.ev e = G2_ at h
 rw [g0_] at hx; rw [g1_] at hq; rw [g2_] at hv
 unfold mset2C at h
 split at h
 ·rename_i id g a1 b1
  have hq' := hq.of_pair
  obtain ⟨hone, ob, hob, hg, hro, hko, hK⟩ := h
  obtain ⟨b, ents, clock, E, e1, hm, hh, hp, hs, hvs, hok, hes, hty, hap, hG, hst⟩ := map_at hI.sim hx hob hg (by decide) hko
  have hck : ∀ em, (Instr.checkKey em 10000 k (.agg #[.int .i64 a1, .int .i64 b1])).run P w = .ok () w := fun em => run_checkPair huk a1 b1 em w
  have hkeys := keys_P hG (keys_E hko hvs)
  have hb : b < w.heap.size := (Array.getElem?_eq_some_iff.1 hh).1
  have fin : ∀ (e' : MapEntry) (ents' : Array MapEntry) (clock' : Nat), e'.key = .agg #[.int .i64 a1, .int .i64 b1] → e'.val = a.eval x → Go.MapKept.Stamped ents' clock' → (Instr.mapUpdate t (.map (some b)) (.agg #[.int .i64 a1, .int .i64 b1]) (a.eval x)).run P w = .ok () { w with heap := w.heap.setIfInBounds b (.map ents' clock') } →
    (∀ E', ((∃ A B e, E = A ++ e :: B ∧ keyV e.key = .int .u8 (pr a1 b1) ∧ E' = A ++ e' :: B) ∨ ((∀ e ∈ E, keyV e.key ≠ .int .u8 (pr a1 b1)) ∧ ∃ A B, E = A ++ B ∧ E' = A ++ e' :: B)) → List.Perm E' ents'.toList) → o.wp P a w (Good W O S0 m S w g0 o a K) Q := by
   intro e' ents' clock' hek hev hst' hrun hperm
   obtain ⟨E', p1, p2, p3, p4, p5, p6⟩ := mset_E (v := G2_) (show keyV e'.key = .int .u8 (pr a1 b1) by rw [hek]; rfl) (by rw [hev]; exact hv) hone hko hok hvs hs
   obtain ⟨q1, q2⟩ := hI.putW hob hro hm rfl (w' := { w with heap := w.heap.setIfInBounds b (.map ents' clock') }) rfl rfl rfl (by simp) (fun k hk => by simp [Array.getElem?_setIfInBounds, Ne.symm hk]) (by rw [hes]; exact p3) (by omega)
    (.inr ⟨hty, hes, hap, b, ents', clock', rfl, by simp [hb], hst', E', none, hperm E' p6, p4.symm, rfl, p2, fun x hx => by rcases p5 x hx with rfl | hx; exact .inr ⟨a1, b1, hek⟩; exact hG x hx⟩) p1
   have hrun2 : (execOp a.eval o).run P w = .ok .skip { w with heap := w.heap.setIfInBounds b (.map ents' clock') } := by
    rcases ho with ho | ho <;> simp [execOp, ho, e1, hq', hrun]
   unfold Oper.wp
   rw [hrun2, Oper.upon_skip]
   exact ⟨.junk, _, m, S, undef, rfl, hK, q1, q2, .junk _, .inl fun _ _ => rfl⟩
  rcases findKeyPair huk a1 b1 w ents.toList (fun e he => hkeys e (hp.mem_iff.2 he)) with ⟨hfk, hno⟩ | ⟨j, e2, hfk, hj, hk⟩
  ·refine fin { key := .agg #[.int .i64 a1, .int .i64 b1], val := a.eval x, born := clock } (ents.push { key := .agg #[.int .i64 a1, .int .i64 b1], val := a.eval x, born := clock }) (clock + 1) rfl rfl (Go.MapKept.stamped_push hst fun e he hh => hno e he (by rw [hh]; rfl)) ?_ fun E' h => ?_
   ·simp [Instr.mapUpdate, run_underlying hu, getMap hh, hck, hfk, setMap hh]
   ·rcases h with ⟨A, B, e', rfl, hk, rfl⟩ | ⟨_, A, B, rfl, rfl⟩
    ·exact absurd hk (hno e' (hp.mem_iff.1 (by simp)))
    ·rw [Array.toList_push]
     exact (List.perm_middle.trans (List.Perm.cons _ hp)).trans (List.perm_append_comm (l₁ := [_]))
  ·have hj2 : ents[j]? = some e2 := by rw [← Array.getElem?_toList]; exact hj
   have he2 : e2 ∈ E := hp.mem_iff.2 (List.mem_of_getElem? hj)
   have hk' : keyV e2.key = .int .u8 (pr a1 b1) := by rw [hk]; rfl
   refine fin { e2 with key := .agg #[.int .i64 a1, .int .i64 b1], val := a.eval x } (ents.modify j fun e => { e with key := .agg #[.int .i64 a1, .int .i64 b1], val := a.eval x }) clock rfl rfl (Go.MapKept.stamped_modify hst j _ (fun _ _ => rfl) fun e _ he => by rw [hj2] at he; cases he; exact hk.symm) ?_ fun E' h => ?_
   ·have hsb : Instr.sameBits 10000 (.agg #[.int .i64 a1, .int .i64 b1]) (.agg #[.int .i64 a1, .int .i64 b1]) = true := by simp [Instr.sameBits]
    simp [Instr.mapUpdate, run_underlying hu, getMap hh, hck, hfk, hj2, hk, Instr.keyThatStays, hsb, setMap hh]
   ·rcases h with ⟨A, B, e', rfl, hk2, rfl⟩ | ⟨h, _⟩
    ·have := key_unique hs he2 (show e' ∈ A ++ e' :: B by simp) hk' hk2
     subst this
     exact modify_perm hj rfl hp
    ·exact absurd hk' (h e2 he2)
 ·exact h.elim
theorem s_mdel2 {t k el : TypeId} {tl : List TypeId} {mo ix : Operand} {y q : AX} (hI : Inv W O S0 m S σ w) (hE : EnvR m S w e a.tmps) {c : Call} (ho : o.op = .call c) (hcc : c.callee = .builtin .delete) (hca : c.args.toList = [mo, ix]) (hct : c.argTypes.toList = t :: tl)
  (hu : P.underlying t = some (.map k el)) (huk : pairT P k = true) (h1 : ax mo = some y) (h2 : ax ix = some q)
  (h : run1 (HC P) (.mp .del2 y [q]) e σ K) : o.wp P a w (Good W O S0 m S w g0 o a K) Q := by
 have hx := ax_sound hE h1
 have hq := ax_sound hE h2
 obtain ⟨cal, args, tys⟩ := c
 simp only at hcc hca hct
 obtain rfl : args = #[mo, ix] := by cases args; simp_all
 obtain rfl : tys = (t :: tl).toArray := by cases tys; simp_all
 subst hcc
 simp only [run1, evs, List.map_cons, List.map_nil, mpC] at h
 generalize g0_ : y.ev e = G0_ at h
 generalize g1_ : q.ev e = G1_ at h
 rw [g0_] at hx; rw [g1_] at hq
 have hb : ∀ {v : Value} {w' : World}, (Builtin.delete_ (t :: tl).toArray o.type #[a.eval mo, a.eval ix]).run P w = .ok v w' → (execOp a.eval o).run P w = .ok (.value v) w' := fun {v w'} hv => by
  simp only [execOp, ho, resolve, invoke, builtin, Sem.run_bind, Sem.run_pure, Result.andThen_ok]
  simp [hv]
 unfold mdel2C at h
 split at h
 ·rename_i id g a1 b1
  have hq' := hq.of_pair
  obtain ⟨ob, hob, hg, hro, hko, hK⟩ := h
  obtain ⟨b, ents, clock, E, e1, hm, hh, hp, hs, hvs, hok, hes, hty, hap, hG, hst⟩ := map_at hI.sim hx hob hg (by decide) hko
  have hck : ∀ em, (Instr.checkKey em 10000 k (.agg #[.int .i64 a1, .int .i64 b1])).run P w = .ok () w := fun em => run_checkPair huk a1 b1 em w
  have hkeys := keys_P hG (keys_E hko hvs)
  have hbs : b < w.heap.size := (Array.getElem?_eq_some_iff.1 hh).1
  have fin : ∀ (ents' : Array MapEntry), Go.MapKept.Stamped ents' clock → (Builtin.delete_ (t :: tl).toArray o.type #[a.eval mo, a.eval ix]).run P w = .ok (.tuple #[]) { w with heap := w.heap.setIfInBounds b (.map ents' clock) } →
    (∀ E', ((∃ A B e, E = A ++ e :: B ∧ keyV e.key = .int .u8 (pr a1 b1) ∧ E' = A ++ B) ∨ ((∀ e ∈ E, keyV e.key ≠ .int .u8 (pr a1 b1)) ∧ E' = E)) → List.Perm E' ents'.toList) → o.wp P a w (Good W O S0 m S w g0 o a K) Q := by
   intro ents' hst' hrun hperm
   obtain ⟨E', p1, p3, p4, p6⟩ := mdel_E (n := pr a1 b1) hko hok hvs
   have hsub : E'.Sublist E := by
    rcases p6 with ⟨A, B, e, rfl, _, rfl⟩ | ⟨_, rfl⟩
    ·exact List.Sublist.append (List.Sublist.refl _) (List.sublist_cons_self _ _)
    ·exact List.Sublist.refl _
   obtain ⟨q1, q2⟩ := hI.putW hob hro hm rfl (w' := { w with heap := w.heap.setIfInBounds b (.map ents' clock) }) rfl rfl rfl (by simp) (fun k hk => by simp [Array.getElem?_setIfInBounds, Ne.symm hk]) (by rw [hes]; exact p3) (by omega)
    (.inr ⟨hty, hes, hap, b, ents', clock, rfl, by simp [hbs], hst', E', none, hperm E' p6, p4.symm, rfl, List.Pairwise.sublist hsub hs, fun x hx => hG x (hsub.subset hx)⟩) p1
   refine good_of_run (hb hrun) hK q1 q2 (VR.mk_tuple (by simpa using VRs.nil)) (fun _ _ => rfl)
  rcases findKeyPair huk a1 b1 w ents.toList (fun e he => hkeys e (hp.mem_iff.2 he)) with ⟨hfk, hno⟩ | ⟨j, e2, hfk, hj, hk⟩
  ·refine fin ents hst ?_ fun E' h => ?_
   ·simp [Builtin.delete_, e1, hq', run_underlying hu, getMap hh, hck, hfk, setMap hh]
   ·rcases h with ⟨A, B, e', rfl, hk, rfl⟩ | ⟨_, rfl⟩
    ·exact absurd hk (hno e' (hp.mem_iff.1 (by simp)))
    ·exact hp
  ·have he2 : e2 ∈ E := hp.mem_iff.2 (List.mem_of_getElem? hj)
   have hk' : keyV e2.key = .int .u8 (pr a1 b1) := by rw [hk]; rfl
   refine fin (ents.eraseIdxIfInBounds j) (Go.MapKept.stamped_erase hst j) ?_ fun E' h => ?_
   ·simp [Builtin.delete_, e1, hq', run_underlying hu, getMap hh, hck, hfk, setMap hh]
   ·rcases h with ⟨A, B, e', rfl, hk2, rfl⟩ | ⟨h, _⟩
    ·have := key_unique hs he2 (show e' ∈ A ++ e' :: B by simp) hk' hk2
     subst this
     exact erase_perm hj hp
    ·exact absurd hk' (h e2 he2)
 ·exact h.elim
theorem s_mlen {t k el : TypeId} {x : Operand} {y : AX} (hI : Inv W O S0 m S σ w) (hE : EnvR m S w e a.tmps) {c : Call} (ho : o.op = .call c) (hcc : c.callee = .builtin .len) (hca : c.args.toList = [x]) (hct : c.argTypes.toList = [t])
  (hu : P.underlying t = some (.map k el)) (h1 : ax x = some y) (h : run1 (HC P) (.mp .mlen y []) e σ K) : o.wp P a w (Good W O S0 m S w g0 o a K) Q := by
 have hx := ax_sound hE h1
 obtain ⟨cal, args, tys⟩ := c
 simp only at hcc hca hct
 obtain rfl : args = #[x] := by cases args; simp_all
 obtain rfl : tys = #[t] := by cases tys; simp_all
 subst hcc
 simp only [run1, evs, List.map_nil, mpC] at h
 generalize g0_ : y.ev e = G0_ at h
 rw [g0_] at hx
 have hb : ∀ {v : Value} {w' : World}, (Builtin.len_ #[t] o.type #[a.eval x]).run P w = .ok v w' → (execOp a.eval o).run P w = .ok (.value v) w' := fun {v w'} hv => by
  simp [execOp, ho, resolve, invoke, builtin, hv]
 unfold mlenC at h
 split at h
 ·rename_i id g
  obtain ⟨ob, hob, hg, hK⟩ := h
  obtain ⟨b, ents, clock, E, mk, e1, hm, hh, hp, hs, hvs, hok, _⟩ := map_at0 hI.sim hx hob hg
  have hlen : ob.l.length = ents.size := by
   have q1 := hvs.1
   have q2 := flatL_length hok
   rw [kvM_len] at q1
   have := hp.length_eq
   simp at this
   omega
  rw [hlen] at hK
  refine good_same hI (hb ?_) hK (.pure (.int _ _))
  simp [Builtin.len_, e1, run_underlying hu, getMap hh, goInt]
 ·have e1 : a.eval x = .map none := hx.of_nilmap
  refine good_same hI (hb ?_) h (.pure (.int _ _))
  simp [Builtin.len_, e1, run_underlying hu, goInt]
 ·exact h.elim
theorem mins_E {n : Int} {v : AV} {s : Nat} {e' : MapEntry} (hek : keyV e'.key = .int .u8 n) (hb : e'.born = s) (hev : VR m S w v e'.val) (hone : v.one = true) : ∀ {l : List AV} {E : List MapEntry}, keysOk .u8 l = true → okL 2 l → VRs m S w (flatL l) (E.flatMap kvE) → SortE E →
  (∀ e ∈ E, keyV e.key ≠ .int .u8 n → e.born ≠ s) →
  ∃ E', VRs m S w (flatL (mins n (.agg [.int .u16 (pr n s), v]) l)) (E'.flatMap (kvM (some s))) ∧ SortE E' ∧ okL 2 (mins n (.agg [.int .u16 (pr n s), v]) l) ∧ (mins n (.agg [.int .u16 (pr n s), v]) l).length = E'.length ∧ (∀ x ∈ E', x = e' ∨ x ∈ E) ∧
   ((∃ A B e, E = A ++ e :: B ∧ keyV e.key = .int .u8 n ∧ E' = A ++ e' :: B) ∨ ((∀ e ∈ E, keyV e.key ≠ .int .u8 n) ∧ ∃ A B, E = A ++ B ∧ E' = A ++ e' :: B)) := by
 have hokn : okE 2 (.agg [.int .u16 (pr n s), v]) := ⟨by simp [AV.flat, AV.one]; exact hone, rfl⟩
 have hkn : keyN e' = n := by simp [keyN, hek]
 have hself : kvM (some s) e' = [.int .u16 (pr n s), e'.val] := by simp [kvM, penV, hek, hb]
 have hcons : ∀ {l : List AV} {E : List MapEntry}, VRs m S w (flatL l) (E.flatMap (kvM (some s))) → VRs m S w (flatL (.agg [.int .u16 (pr n s), v] :: l)) ((e' :: E).flatMap (kvM (some s))) := fun h => by
  simp only [flatL, List.flatMap_cons, AV.cells, hself, List.cons_append, List.nil_append]
  exact (h.cons hev).cons (.pure (.int .u16 _))
 have hoth : ∀ {E : List MapEntry}, (∀ e ∈ E, e.born ≠ s) → E.flatMap kvE = E.flatMap (kvM (some s)) := by
  intro E
  induction E with
  | nil => intro _; rfl
  | cons e E ih =>
   intro h
   simp only [List.flatMap_cons]
   rw [ih fun x hx => h x (List.mem_cons_of_mem _ hx), kvM_ne (mk := some s) (e := e) fun hh => h e (List.mem_cons_self ..) (Option.some.inj hh).symm]
 intro l
 induction l with
 | nil =>
  intro E _ _ hv _ _
  obtain rfl := ents_nil hv
  refine ⟨[e'], hcons hv, List.pairwise_singleton _ _, fun y hy => ?_, rfl, fun x hx => .inl ?_, .inr ⟨fun e he => (by cases he), [], [], rfl, rfl⟩⟩
  ·simp only [mins, List.mem_singleton] at hy; rw [hy]; exact hokn
  ·rwa [List.mem_singleton] at hx
 | cons y l ih =>
  intro E hk hok hv hs hbs
  simp only [keysOk, List.all_cons, Bool.and_eq_true] at hk
  obtain ⟨a, x, rfl⟩ := keyOk_spec hk.1
  obtain ⟨e1, E', rfl, h1, h2, h3⟩ := ents_cons hv
  have hk1 : keyN e1 = a := by simp [keyN, h1]
  have hs2 := List.pairwise_cons.1 hs
  have hall := keys_E hk.2 h3
  have q1 := h3.1
  rw [kv_len] at q1
  have hokl : okL 2 l := fun y hy => hok y (List.mem_cons_of_mem _ hy)
  have q2 := flatL_length hokl
  by_cases hn : n = a
  ·have hm : mins n (.agg [.int .u16 (pr n s), v]) (.agg [.int .u8 a, x] :: l) = .agg [.int .u16 (pr n s), v] :: l := by simp [mins, keyOf, hn]
   rw [hm]
   have hne : ∀ e ∈ E', e.born ≠ s := fun e he => hbs e (List.mem_cons_of_mem _ he) fun hh => by
    have := hs2.1 e he
    rw [hk1] at this
    simp [keyN, hh] at this
    omega
   refine ⟨e' :: E', hcons (by rw [← hoth hne]; exact h3), List.pairwise_cons.2 ⟨fun b hb => ?_, hs2.2⟩, fun y hy => ?_, ?_, fun z hz => ?_, .inl ⟨[], E', e1, rfl, by rw [h1, hn], rfl⟩⟩
   ·rw [hkn, hn, ← hk1]; exact hs2.1 b hb
   ·rcases List.mem_cons.1 hy with rfl | hy
    ·exact hokn
    ·exact hokl y hy
   ·simp only [List.length_cons]; omega
   ·rcases List.mem_cons.1 hz with rfl | hz
    ·exact .inl rfl
    ·exact .inr (List.mem_cons_of_mem _ hz)
  ·have hb1 : e1.born ≠ s := hbs e1 (List.mem_cons_self ..) fun hh => by rw [h1] at hh; cases hh; exact hn rfl
   by_cases hlt : n < a
   ·have hm : mins n (.agg [.int .u16 (pr n s), v]) (.agg [.int .u8 a, x] :: l) = .agg [.int .u16 (pr n s), v] :: .agg [.int .u8 a, x] :: l := by simp [mins, keyOf, hn, hlt]
    rw [hm]
    have hnk : ∀ b ∈ e1 :: E', keyV b.key ≠ .int .u8 n := by
     intro b hb hb2
     rcases List.mem_cons.1 hb with rfl | hb
     ·rw [h1] at hb2; cases hb2; exact hn rfl
     ·have := hs2.1 b hb
      simp only [keyN, hb2, h1] at this
      omega
    refine ⟨e' :: e1 :: E', hcons (by rw [← hoth fun e he => hbs e he (hnk e he)]; exact hv), List.pairwise_cons.2 ⟨fun b hb => ?_, hs⟩, fun y hy => ?_, by simp only [List.length_cons]; omega, fun z hz => ?_, .inr ⟨hnk, [], _, rfl, rfl⟩⟩
    ·rcases List.mem_cons.1 hb with rfl | hb
     ·rw [hkn, hk1]; exact hlt
     ·have := hs2.1 b hb; rw [hkn]; rw [hk1] at this; omega
    ·rcases List.mem_cons.1 hy with rfl | hy
     ·exact hokn
     ·exact hok y hy
    ·rcases List.mem_cons.1 hz with rfl | hz
     ·exact .inl rfl
     ·exact .inr hz
   ·have hm : mins n (.agg [.int .u16 (pr n s), v]) (.agg [.int .u8 a, x] :: l) = .agg [.int .u8 a, x] :: mins n (.agg [.int .u16 (pr n s), v]) l := by simp [mins, keyOf, hn, hlt]
    rw [hm]
    obtain ⟨E2, p1, p2, p3, p4, p5, p6⟩ := ih hk.2 hokl h3 hs2.2 fun e he => hbs e (List.mem_cons_of_mem _ he)
    refine ⟨e1 :: E2, ?_, List.pairwise_cons.2 ⟨fun b hb => ?_, p2⟩, fun y hy => ?_, by simp only [List.length_cons]; omega, fun z hz => ?_, ?_⟩
    ·simp only [flatL, List.flatMap_cons, AV.cells, kvM_ne (mk := some s) (e := e1) fun hh => hb1 (Option.some.inj hh).symm, kvE, List.cons_append, List.nil_append, h1]
     exact (VRs.cons (.pure (.int .u8 a)) (VRs.cons h2 p1))
    ·rcases p5 b hb with h | hb'
     ·rw [h, hkn, hk1]; omega
     ·exact hs2.1 b hb'
    ·rcases List.mem_cons.1 hy with rfl | hy
     ·exact hok _ (List.mem_cons_self ..)
     ·exact p3 y hy
    ·rcases List.mem_cons.1 hz with rfl | hz
     ·exact .inr (List.mem_cons_self ..)
     ·rcases p5 z hz with h | hb'
      ·exact .inl h
      ·exact .inr (List.mem_cons_of_mem _ hb')
    ·rcases p6 with ⟨A, B, e, rfl, q, rfl⟩ | ⟨q, A, B, rfl, rfl⟩
     ·exact .inl ⟨e1 :: A, B, e, rfl, q, rfl⟩
     ·refine .inr ⟨fun b hb => ?_, e1 :: A, B, rfl, rfl⟩
      rcases List.mem_cons.1 hb with rfl | hb
      ·rw [h1]; intro hh; cases hh; exact hn rfl
      ·exact q b hb
theorem pen_spec {mk : Option Nat} {b : Nat} {k : Value} (hG : keyG k) {n s : Int} (h : penV mk b (keyV k) = .int .u16 (pr n s)) : mk = some b ∧ keyV k = .int .u8 n ∧ s = (b : Int) := by
 unfold penV at h
 split at h
 ·rename_i t n' _ hk
  split at h
  ·rename_i htb
   cases htb
   simp only [Value.int.injEq, true_and] at h
   obtain ⟨rfl, rfl⟩ := pr_inj h
   exact ⟨rfl, hk, rfl⟩
  ·cases h
 ·rcases hG with ⟨k', a, rfl, _, h2⟩ | ⟨a, c, rfl⟩
  ·simp only [keyV] at h; cases h; exact absurd rfl h2
  ·rw [keyV_pair] at h; cases h
theorem msto_E {n t : Int} {old v : AV} (hone : v.one = true) {mk : Option Nat} : ∀ {l : List AV} {E : List MapEntry}, keysOk .u8 l = true → okL 2 (mins n (.agg [.int .u16 (pr n t), old]) l) → VRs m S w (flatL (mins n (.agg [.int .u16 (pr n t), old]) l)) (E.flatMap (kvM mk)) → (∀ e ∈ E, keyG e.key) →
  ∃ A B e, E = A ++ e :: B ∧ (e.born : Int) = t ∧ okL 2 (mset .u8 n v l) ∧ (mset .u8 n v l).length = E.length ∧ ∀ e' : MapEntry, e'.key = e.key → VR m S w v e'.val → VRs m S w (flatL (mset .u8 n v l)) ((A ++ e' :: B).flatMap kvE) := by
 have hokn : okE 2 (.agg [.int .u8 n, v]) := ⟨by simp [AV.flat, AV.one]; exact hone, rfl⟩
 have top : ∀ {l : List AV} {E : List MapEntry}, keysOk .u8 l = true → okL 2 l → VRs m S w (flatL (.agg [.int .u16 (pr n t), old] :: l)) (E.flatMap (kvM mk)) → (∀ e ∈ E, keyG e.key) →
   ∃ B e, E = e :: B ∧ (e.born : Int) = t ∧ okL 2 (.agg [.int .u8 n, v] :: l) ∧ (.agg [.int .u8 n, v] :: l).length = E.length ∧ ∀ e' : MapEntry, e'.key = e.key → VR m S w v e'.val → VRs m S w (flatL (.agg [.int .u8 n, v] :: l)) ((e' :: B).flatMap kvE) := by
  intro l E hk hok hv hG
  obtain ⟨e1, E', rfl, h1, h2, h3⟩ := ents_consM hv
  obtain ⟨rfl, q2, q3⟩ := pen_spec (hG e1 (List.mem_cons_self ..)) h1
  have h4 := unpend (by decide) hk h3
  rw [h4] at h3
  have q1 := h3.1
  rw [kv_len] at q1
  have q5 := flatL_length hok
  refine ⟨E', e1, rfl, q3.symm, fun y hy => ?_, by simp only [List.length_cons]; omega, fun e' hk' hv' => ?_⟩
  ·rcases List.mem_cons.1 hy with rfl | hy
   ·exact hokn
   ·exact hok y hy
  ·simp only [flatL, List.flatMap_cons, AV.cells, kvE, List.cons_append, List.nil_append, hk', q2]
   exact (VRs.cons (.pure (.int .u8 n)) (VRs.cons hv' h3))
 intro l
 induction l with
 | nil =>
  intro E hk hok hv hG
  obtain ⟨B, e, rfl, h1, h2, h3, h4⟩ := top (l := []) rfl (fun y hy => by cases hy) hv hG
  exact ⟨[], B, e, rfl, h1, h2, h3, h4⟩
 | cons y l ih =>
  intro E hk hok hv hG
  have hk0 := hk
  simp only [keysOk, List.all_cons, Bool.and_eq_true] at hk
  obtain ⟨a, x, rfl⟩ := keyOk_spec hk.1
  by_cases hn : n = a
  ·have hm : mins n (.agg [.int .u16 (pr n t), old]) (.agg [.int .u8 a, x] :: l) = .agg [.int .u16 (pr n t), old] :: l := by simp [mins, keyOf, hn]
   rw [hm] at hv hok
   rw [mset_eq hn]
   obtain ⟨B, e, rfl, h1, h2, h3, h4⟩ := top hk.2 (fun y hy => hok y (List.mem_cons_of_mem _ hy)) hv hG
   exact ⟨[], B, e, rfl, h1, h2, h3, h4⟩
  ·by_cases hlt : n < a
   ·have hm : mins n (.agg [.int .u16 (pr n t), old]) (.agg [.int .u8 a, x] :: l) = .agg [.int .u16 (pr n t), old] :: .agg [.int .u8 a, x] :: l := by simp [mins, keyOf, hn, hlt]
    rw [hm] at hv hok
    rw [mset_lt hlt]
    obtain ⟨B, e, rfl, h1, h2, h3, h4⟩ := top hk0 (fun y hy => hok y (List.mem_cons_of_mem _ hy)) hv hG
    exact ⟨[], B, e, rfl, h1, h2, h3, h4⟩
   ·have hm : mins n (.agg [.int .u16 (pr n t), old]) (.agg [.int .u8 a, x] :: l) = .agg [.int .u8 a, x] :: mins n (.agg [.int .u16 (pr n t), old]) l := by simp [mins, keyOf, hn, hlt]
    rw [hm] at hv hok
    rw [mset_gt hn hlt]
    obtain ⟨e1, E', rfl, h1, h2, h3⟩ := ents_consM hv
    have hkv := penV_ne h1 (by decide)
    obtain ⟨A, B, e, rfl, p1, p2, p3, p4⟩ := ih hk.2 (fun y hy => hok y (List.mem_cons_of_mem _ hy)) h3 fun e he => hG e (List.mem_cons_of_mem _ he)
    refine ⟨e1 :: A, B, e, rfl, p1, fun y hy => ?_, by simp only [List.length_cons]; omega, fun e' hk' hv' => ?_⟩
    ·rcases List.mem_cons.1 hy with rfl | hy
     ·exact hok _ (List.mem_cons_self ..)
     ·exact p2 y hy
    ·simp only [flatL, List.cons_append, List.flatMap_cons, AV.cells, kvE, List.nil_append, hkv]
     exact (VRs.cons (.pure (.int .u8 a)) (VRs.cons h2 (p4 e' hk' hv')))
theorem born_inj : ∀ {L : List MapEntry}, (L.map (·.born)).Nodup → ∀ {x y : MapEntry}, x ∈ L → y ∈ L → x.born = y.born → x = y
 | [], _, _, _, h, _, _ => by cases h
 | e :: L, hn, x, y, hx, hy, hxy => by
  rw [List.map_cons, List.nodup_cons] at hn
  rcases List.mem_cons.1 hx with h1 | h1
  ·rcases List.mem_cons.1 hy with h2 | h2
   ·rw [h1, h2]
   ·exact (hn.1 (List.mem_map.2 ⟨y, h2, by rw [← hxy, h1]⟩)).elim
  ·rcases List.mem_cons.1 hy with h2 | h2
   ·exact (hn.1 (List.mem_map.2 ⟨x, h1, by rw [hxy, h2]⟩)).elim
   ·exact born_inj hn.2 h1 h2 hxy
theorem s_ment2 {t k el : TypeId} {i : TypeInfo} {z0 : Value} {z : AV} {mo ix : Operand} {y q : AX} (hI : Inv W O S0 m S σ w) (hE : EnvR m S w e a.tmps) (ho : o.op = .mapEntry t mo ix)
  (hu : P.underlying t = some (.map k el)) (huk : pairT P k = true) (hi : P.info? el = some i) (hz0 : i.zero = some z0) (hz : av z0 = some z) (h1 : ax mo = some y) (h2 : ax ix = some q)
  (h : run1 (HC P) (.mp (.ent2 z) y [q]) e σ K) : o.wp P a w (Good W O S0 m S w g0 o a K) Q := by
 have hx := ax_sound hE h1
 have hq := ax_sound hE h2
 have hzv : VP S w z z0 := av_sound hz
 simp only [run1, evs, List.map_cons, List.map_nil, mpC] at h
 generalize g0_ : y.ev e = G0_ at h
 generalize g1_ : q.ev e = G1_ at h
 rw [g0_] at hx; rw [g1_] at hq
 unfold ment2C at h
 split at h
 ·rename_i id g a1 b1
  have hq' := hq.of_pair
  obtain ⟨ob, hob, hg, hro, hko, hzone, hyone, hK⟩ := h
  obtain ⟨b, ents, clock, E, e1, hm, hh, hp, hs, hvs, hok, hes, hty, hap, hG, hst⟩ := map_at hI.sim hx hob hg (by decide) hko
  have hck : ∀ em, (Instr.checkKey em 10000 k (.agg #[.int .i64 a1, .int .i64 b1])).run P w = .ok () w := fun em => run_checkPair huk a1 b1 em w
  have hkeys := keys_P hG (keys_E hko hvs)
  have hbs : b < w.heap.size := (Array.getElem?_eq_some_iff.1 hh).1
  have uniq : ∀ {x y : MapEntry}, x ∈ E → y ∈ E → x.born = y.born → x = y := fun hx hy hxy => born_inj hst.2.1 (hp.mem_iff.1 hx) (hp.mem_iff.1 hy) hxy
  have fin : ∀ (x0 : AV) (e' : MapEntry) (ents' : Array MapEntry) (clock' : Nat), (mget (pr a1 b1) ob.l).getD z = x0 → e'.key = .agg #[.int .i64 a1, .int .i64 b1] → VR m S w x0 e'.val → x0.one = true → (∀ e ∈ E, keyV e.key ≠ .int .u8 (pr a1 b1) → e.born ≠ e'.born) → Go.MapKept.Stamped ents' clock' →
    (Instr.mapEntry t (.map (some b)) (.agg #[.int .i64 a1, .int .i64 b1])).run P w = .ok (.tuple #[e'.val, .int .i64 (e'.born : Int)]) { w with heap := w.heap.setIfInBounds b (.map ents' clock') } →
    (∀ E', ((∃ A B e, E = A ++ e :: B ∧ keyV e.key = .int .u8 (pr a1 b1) ∧ E' = A ++ e' :: B) ∨ ((∀ e ∈ E, keyV e.key ≠ .int .u8 (pr a1 b1)) ∧ ∃ A B, E = A ++ B ∧ E' = A ++ e' :: B)) → List.Perm E' ents'.toList) → o.wp P a w (Good W O S0 m S w g0 o a K) Q := by
   intro x0 e' ents' clock' hx0 hek hev hone hbn hst' hrun hperm
   obtain ⟨E', p1, p2, p3, p4, p5, p6⟩ := mins_E (s := e'.born) (show keyV e'.key = .int .u8 (pr a1 b1) by rw [hek]; rfl) rfl hev hone hko hok hvs hs hbn
   obtain ⟨q1, q2⟩ := hI.putW hob hro hm rfl (w' := { w with heap := w.heap.setIfInBounds b (.map ents' clock') }) rfl rfl rfl (by simp) (fun k hk => by simp [Array.getElem?_setIfInBounds, Ne.symm hk]) (by rw [hes]; exact p3) (by omega)
    (.inr ⟨hty, hes, hap, b, ents', clock', rfl, by simp [hbs], hst', E', some e'.born, hperm E' p6, p4.symm, rfl, p2, fun x hx => by rcases p5 x hx with rfl | hx; exact .inr ⟨a1, b1, hek⟩; exact hG x hx⟩) p1
   have hK' := hK e'.born
   rw [hx0] at hK'
   refine good_of_run ?_ hK' q1 q2 (.mk_tuple ((VRs.nil.cons (.pure (.int .i64 _))).cons (hev.ext q2))) (fun _ _ => rfl)
   simp [execOp, ho, e1, hq', hrun]
  rcases findKeyPair huk a1 b1 w ents.toList (fun e he => hkeys e (hp.mem_iff.2 he)) with ⟨hfk, hno⟩ | ⟨j, e2, hfk, hj, hk⟩
  ·have hr : mget (pr a1 b1) ob.l = none := by
    rcases mget_E (n := pr a1 b1) hko hvs with ⟨h, _⟩ | ⟨x', e', _, h2, h3, _⟩
    ·exact h
    ·exact absurd h3 (hno e' (hp.mem_iff.1 h2))
   refine fin z { key := .agg #[.int .i64 a1, .int .i64 b1], val := z0, born := clock } (ents.push { key := .agg #[.int .i64 a1, .int .i64 b1], val := z0, born := clock }) (clock + 1) (by rw [hr]; rfl) rfl (.pure hzv) hzone
    (fun e he _ => Nat.ne_of_lt (hst.1 e (hp.mem_iff.1 he))) (Go.MapKept.stamped_push hst fun e he hh => hno e he (by rw [hh]; rfl)) ?_ fun E' h => ?_
   ·simp [Instr.mapEntry, run_underlying hu, getMap hh, hck, hfk, run_zero hi hz0, setMap hh, goInt]
   ·rcases h with ⟨A, B, e', rfl, hk, rfl⟩ | ⟨_, A, B, rfl, rfl⟩
    ·exact absurd hk (hno e' (hp.mem_iff.1 (by simp)))
    ·rw [Array.toList_push]
     exact (List.perm_middle.trans (List.Perm.cons _ hp)).trans (List.perm_append_comm (l₁ := [_]))
  ·have hj2 : ents[j]? = some e2 := by rw [← Array.getElem?_toList]; exact hj
   have he2 : e2 ∈ E := hp.mem_iff.2 (List.mem_of_getElem? hj)
   have hk' : keyV e2.key = .int .u8 (pr a1 b1) := by rw [hk]; rfl
   obtain ⟨x1, hr, hxu⟩ : ∃ x1, mget (pr a1 b1) ob.l = some x1 ∧ VR m S w x1 e2.val := by
    rcases mget_E (n := pr a1 b1) hko hvs with ⟨_, h⟩ | ⟨x', e3, h1, h2, h3, h4⟩
    ·exact absurd hk' (h e2 he2)
    ·have := key_unique hs he2 h2 hk' h3
     subst this
     exact ⟨x', h1, h4⟩
   refine fin x1 e2 (ents.modify j fun e => { e with key := .agg #[.int .i64 a1, .int .i64 b1] }) clock (by rw [hr]; rfl) hk hxu (hyone x1 hr) (fun e he hne hb => hne (by rw [uniq he he2 hb]; exact hk'))
    (Go.MapKept.stamped_modify hst j _ (fun _ _ => rfl) fun e _ he => by rw [hj2] at he; cases he; exact hk.symm) ?_ fun E' h => ?_
   ·have hsb : Instr.sameBits 10000 (.agg #[.int .i64 a1, .int .i64 b1]) (.agg #[.int .i64 a1, .int .i64 b1]) = true := by simp [Instr.sameBits]
    simp [Instr.mapEntry, run_underlying hu, getMap hh, hck, hfk, hj2, hk, Instr.keyThatStays, hsb, setMap hh, goInt]
   ·rcases h with ⟨A, B, e', rfl, hk2, rfl⟩ | ⟨h, _⟩
    ·have := key_unique hs he2 (show e' ∈ A ++ e' :: B by simp) hk' hk2
     subst this
     refine modify_perm hj ?_ hp
     cases e2
     simp only at hk
     subst hk
     rfl
    ·exact absurd hk' (h e2 he2)
 ·exact h.elim
theorem s_msto2 {t : TypeId} {mo ix x : Operand} {y q v : AX} (hI : Inv W O S0 m S σ w) (hE : EnvR m S w e a.tmps) (ho : o.op = .entryStore t mo ix x)
  (h1 : ax mo = some y) (h2 : ax ix = some q) (h3 : ax x = some v)
  (h : run1 (HC P) (.mp .sto2 y [q, v]) e σ K) : o.wp P a w (Good W O S0 m S w g0 o a K) Q := by
 have hx := ax_sound hE h1
 have hq := ax_sound hE h2
 have hv := ax_sound hE h3
 simp only [run1, evs, List.map_cons, List.map_nil, mpC] at h
 generalize g0_ : y.ev e = G0_ at h
 generalize g1_ : q.ev e = G1_ at h
 generalize g2_ : v.ev e = G2_ at h
 rw [g0_] at hx; rw [g1_] at hq; rw [g2_] at hv
 unfold msto2C at h
 split at h
 ·rename_i id g t1
  have hq' := hq.of_int
  obtain ⟨hone, ob, hob, hg, hro, n, old, l, hl, hkl, hK⟩ := h
  obtain ⟨b, ents, clock, E, mk, e1, hm, hh, hp, hs, hvs, hok, hes, hty, hap, hG, hst⟩ := map_at0 hI.sim hx hob hg
  have hbs : b < w.heap.size := (Array.getElem?_eq_some_iff.1 hh).1
  rw [hl] at hvs hok
  obtain ⟨A, B, e0, rfl, hborn, p2, p3, p4⟩ := msto_E hone hkl hok hvs hG
  have he0 : e0 ∈ ents.toList := hp.mem_iff.1 (by simp)
  obtain ⟨j, hfi, hj⟩ : ∃ j, ents.findIdx? (fun e => (e.born : Int) == t1) = some j ∧ ents.toList[j]? = some e0 := by
   have h0 := Array.findIdx?_eq_some_of_exists (xs := ents) (p := fun e => (e.born : Int) == t1) ⟨e0, by simpa using he0, by simpa using hborn⟩
   refine ⟨_, h0, ?_⟩
   obtain ⟨hlt, hpj, _⟩ := Array.findIdx?_eq_some_iff_getElem.1 h0
   have hmem : ents[ents.findIdx fun e => (e.born : Int) == t1] ∈ ents.toList := by simp
   have hb2 : (ents[ents.findIdx fun e => (e.born : Int) == t1].born : Int) = t1 := by simpa using hpj
   have := born_inj hst.2.1 hmem he0 (by omega)
   rw [Array.getElem?_toList, Array.getElem?_eq_getElem hlt, this]
  have hperm : List.Perm (A ++ { e0 with val := a.eval x } :: B) (ents.modify j fun e => { e with val := a.eval x }).toList := modify_perm hj rfl hp
  have hkeyN : ∀ z : Value, keyN { e0 with val := z } = keyN e0 := fun _ => rfl
  have hs' : SortE (A ++ { e0 with val := a.eval x } :: B) := by
   unfold SortE at hs ⊢
   rw [List.pairwise_append] at hs ⊢
   refine ⟨hs.1, ?_, fun p hp' r hr => ?_⟩
   ·have := List.pairwise_cons.1 hs.2.1
    exact List.pairwise_cons.2 ⟨fun r hr => this.1 r hr, this.2⟩
   ·rcases List.mem_cons.1 hr with rfl | hr
    ·exact hs.2.2 p hp' e0 (by simp)
    ·exact hs.2.2 p hp' r (by simp [hr])
  obtain ⟨q1, q2⟩ := hI.putW hob hro hm rfl (w' := { w with heap := w.heap.setIfInBounds b (.map (ents.modify j fun e => { e with val := a.eval x }) clock) }) rfl rfl rfl (by simp) (fun k hk => by simp [Array.getElem?_setIfInBounds, Ne.symm hk]) (by rw [hes]; exact p2) (by omega)
   (.inr ⟨hty, hes, hap, b, _, clock, rfl, by simp [hbs], Go.MapKept.stamped_modify hst j (fun e => { e with val := a.eval x }) (fun _ _ => rfl) (fun _ _ _ => rfl), _, none, hperm, by rw [p3]; simp, rfl, hs', fun z hz => by
    rcases List.mem_append.1 hz with hz | hz
    ·exact hG z (by simp [hz])
    ·rcases List.mem_cons.1 hz with rfl | hz
     ·exact hG e0 (by simp)
     ·exact hG z (by simp [hz])⟩) (p4 _ rfl hv)
  have hrun2 : (execOp a.eval o).run P w = .ok .skip { w with heap := w.heap.setIfInBounds b (.map (ents.modify j fun e => { e with val := a.eval x }) clock) } := by
   simp [execOp, ho, e1, hq', Instr.entryStore, getMap hh, asInt, asIntOf, hfi, setMap hh]
  unfold Oper.wp
  rw [hrun2, Oper.upon_skip]
  exact ⟨.junk, _, m, S, undef, rfl, hK, q1, q2, .junk _, .inl fun _ _ => rfl⟩
 ·exact h.elim
end
end Go.Ab
