/- OWN WORK, put together by tools/asm.py, seat.py, mini.py. -/
import Derived.Test.YtmjcbljjnhmmnaaBaseM
import Derived.IntWalk
namespace Go.Ab
section
variable {P : Program} {H : Hcall} {e : Nat → AV} {σ : St} {C : AV → St → Prop} {k : (Nat → AV) → St → Prop} {Q : awpK}
@[go_sem] theorem w_t (s : Nat) : AX.ev e (.t s) = e s := (rfl)
@[go_sem] theorem w_c (v : AV) : AX.ev e (.c v) = v := (rfl)
@[go_sem] theorem w_evs_nil : evs e [] = [] := (rfl)
@[go_sem] theorem w_evs_cons (x : AX) (l : List AX) : evs e (x :: l) = x.ev e :: evs e l := (rfl)
@[go_sem] theorem w_evo_none : evo e none = none := (rfl)
@[go_sem] theorem w_evo_some (x : AX) : evo e (some x) = some (x.ev e) := (rfl)
@[go_sem] theorem w_evp_nil : evp e [] = [] := (rfl)
@[go_sem] theorem w_evp_cons (a b : Nat) (x : AX) (l : List (Nat × Nat × AX)) : evp e ((a, b, x) :: l) = (a, b, x.ev e) :: evp e l := (rfl)
@[go_sem] theorem w_upd {α : Type} (f : Nat → α) (i j : Nat) (x : α) : upd f i x j = if j = i then x else f j := (rfl)
def junkE : Nat → AV := fun _ => .junk
@[go_sem] theorem w_env0_0 : env0 [] = junkE := by funext j; simp [env0, junkE]
@[go_sem] theorem w_env0_1 (a : AV) : env0 [a] = upd junkE 0 a := by funext j; match j with | 0 => rfl | j + 1 => simp [env0, junkE, upd]
@[go_sem] theorem w_env0_2 (a b : AV) : env0 [a, b] = upd (upd junkE 1 b) 0 a := by funext j; match j with | 0 => rfl | 1 => rfl | j + 2 => simp [env0, junkE, upd]
@[go_sem] theorem w_env0_3 (a b c : AV) : env0 [a, b, c] = upd (upd (upd junkE 2 c) 1 b) 0 a := by funext j; match j with | 0 => rfl | 1 => rfl | 2 => rfl | j + 3 => simp [env0, junkE, upd]
@[go_sem] theorem w_env0_4 (a b c d : AV) : env0 [a, b, c, d] = upd (upd (upd (upd junkE 3 d) 2 c) 1 b) 0 a := by funext j; match j with | 0 => rfl | 1 => rfl | 2 => rfl | 3 => rfl | j + 4 => simp [env0, junkE, upd]
@[go_sem] theorem w_env0_5 (a b c d f : AV) : env0 [a, b, c, d, f] = upd (upd (upd (upd (upd junkE 4 f) 3 d) 2 c) 1 b) 0 a := by funext j; match j with | 0 => rfl | 1 => rfl | 2 => rfl | 3 => rfl | 4 => rfl | j + 5 => simp [env0, junkE, upd]
@[go_sem] theorem w_env0_6 (a b c d f g : AV) : env0 [a, b, c, d, f, g] = upd (upd (upd (upd (upd (upd junkE 5 g) 4 f) 3 d) 2 c) 1 b) 0 a := by funext j; match j with | 0 => rfl | 1 => rfl | 2 => rfl | 3 => rfl | 4 => rfl | 5 => rfl | j + 6 => simp [env0, junkE, upd]
@[go_sem] theorem w_puts (d : Nat) (v : AV) : puts e (some d) v = upd e d v := (rfl)
@[go_sem] theorem w_puts_none (v : AV) : puts e none v = e := (rfl)
@[go_sem] theorem w_cont (d : Option Nat) (v : AV) : Cont k e d v σ = k (puts e d v) σ := (rfl)
@[go_sem] theorem w_runs_nil : runs H [] k e σ = k e σ := (rfl)
@[go_sem] theorem w_runs_cons (d : Option Nat) (op : AOp) (af : List Nat) (r : List AOper) : runs H (⟨d, op, none, af⟩ :: r) k e σ = run1 H op e σ (Cont (runs H r k) e d) := (rfl)
@[go_sem] theorem w_runs_guard (d : Option Nat) (op : AOp) (af : List Nat) (r : List AOper) (s : Nat) (w : Bool) :
  runs H (⟨d, op, some (s, w), af⟩ :: r) k e σ = gdK s w (GuardA H op d (runs H r k)) (GuardB d (runs H r k)) (e s) e σ := rfl
@[go_sem] theorem w_guardA (op : AOp) (d : Option Nat) : GuardA H op d k e σ = run1 H op e σ (Cont k e d) := (rfl)
@[go_sem] theorem w_guardB (d : Option Nat) : GuardB d k e σ = k (puts e d (.tuple [])) σ := (rfl)
section
variable (s : Nat) (A B : (Nat → AV) → St → Prop)
@[go_sem] theorem w_gd_u (w : Bool) : gdK s w A B (.tuple []) e σ = B e σ := by simp [gdK]
@[go_sem] theorem w_gd_tt : gdK s true A B (.bool true) e σ = A e σ := by simp [gdK]
@[go_sem] theorem w_gd_ff : gdK s false A B (.bool false) e σ = A e σ := by simp [gdK]
@[go_sem] theorem w_gd_tf : gdK s true A B (.bool false) e σ = B e σ := by simp [gdK]
@[go_sem] theorem w_gd_ft : gdK s false A B (.bool true) e σ = B e σ := by simp [gdK]
theorem gd_split {s : Nat} {b w : Bool} {A B : (Nat → AV) → St → Prop} (h : e s = .bool b) (hA : b = w → A (upd e s (.bool w)) σ) (hB : b = (!w) → B (upd e s (.bool !w)) σ) : gdK s w A B (.bool b) e σ := by
 have key : ∀ {c : Bool}, b = c → upd e s (.bool c) = e := fun {c} hc => by
  funext j
  by_cases hj : j = s
  ·subst hj; rw [upd_same, h, hc]
  ·rw [upd_ne _ _ _ _ hj]
 exact ⟨fun hb => by have := hA hb; rwa [key hb] at this, fun hb => by have := hB hb; rwa [key hb] at this⟩
end
theorem gd_t {s : Nat} {b : Bool} {A B : (Nat → AV) → St → Prop} (h : e s = .bool b) (hA : b = true → A (upd e s (.bool true)) σ) (hB : b = false → B (upd e s (.bool false)) σ) : gdK s true A B (.bool b) e σ := gd_split h hA hB
theorem gd_f {s : Nat} {b : Bool} {A B : (Nat → AV) → St → Prop} (h : e s = .bool b) (hB : b = true → B (upd e s (.bool true)) σ) (hA : b = false → A (upd e s (.bool false)) σ) : gdK s false A B (.bool b) e σ := gd_split h hA hB
theorem gd_td {s : Nat} {p : Prop} [Decidable p] {A B : (Nat → AV) → St → Prop} (h : e s = .bool (decide p)) (hA : p → A (upd e s (.bool true)) σ) (hB : ¬ p → B (upd e s (.bool false)) σ) : gdK s true A B (.bool (decide p)) e σ :=
 gd_t h (fun h => hA (of_decide_eq_true h)) (fun h => hB (of_decide_eq_false h))
theorem gd_fd {s : Nat} {p : Prop} [Decidable p] {A B : (Nat → AV) → St → Prop} (h : e s = .bool (decide p)) (hB : p → B (upd e s (.bool true)) σ) (hA : ¬ p → A (upd e s (.bool false)) σ) : gdK s false A B (.bool (decide p)) e σ :=
 gd_f h (fun h => hB (of_decide_eq_true h)) (fun h => hA (of_decide_eq_false h))
theorem gd_fn {s : Nat} {p : Prop} [Decidable p] {A B : (Nat → AV) → St → Prop} (h : e s = .bool (!decide p)) (hB : ¬ p → B (upd e s (.bool true)) σ) (hA : p → A (upd e s (.bool false)) σ) : gdK s false A B (.bool (!decide p)) e σ :=
 gd_f h (fun h => hB (by simpa using h)) (fun h => hA (by simpa using h))
@[go_sem] theorem w_seq (a b : ACode) : awp H (.seq a b) Q e σ = awp H a (SeqQ (awp H b Q) Q) e σ := (rfl)
@[go_sem] theorem w_seqQ_nrm : SeqQ k Q .nrm e σ = k e σ := (rfl)
@[go_sem] theorem w_seqQ_ret : SeqQ k Q .ret e σ = Q .ret e σ := (rfl)
@[go_sem] theorem w_seqQ_exit (i : Nat) : SeqQ k Q (.exit i) e σ = Q (.exit i) e σ := (rfl)
@[go_sem] theorem w_seqQ_nrm' : SeqQ k Q .nrm = k := (rfl)
@[go_sem] theorem w_blockQ_nrm (id : Nat) : BlockQ id Q .nrm e σ = Q .nrm e σ := (rfl)
@[go_sem] theorem w_blockQ_ret (id : Nat) : BlockQ id Q .ret e σ = Q .ret e σ := (rfl)
@[go_sem] theorem w_blockQ_exit (id i : Nat) : BlockQ id Q (.exit i) e σ = if i = id then Q .nrm e σ else Q (.exit i) e σ := (rfl)
def upI (nn n : Nat) (J : Nat → (Nat → AV) → St → Prop) (i : Nat) (e : Nat → AV) (σ : St) : Prop := σ.n = nn ∧ ∃ r, r ≤ n ∧ i = n - r ∧ J r e σ
def UpQ (nn n r : Nat) (J : Nat → (Nat → AV) → St → Prop) (Q : awpK) : awpK := LoopQ nn (n - r) (upI nn n J) Q
theorem up_next {nn n r : Nat} {J : Nat → (Nat → AV) → St → Prop} (h : r < n) (hJ : J (r + 1) e (σ.trunc nn)) : UpQ nn n r J Q .nrm e σ := ⟨n - (r + 1), by omega, nn, Nat.le_refl _, rfl, r + 1, h, rfl, hJ⟩
@[go_sem] theorem w_upQ_ret (nn n r : Nat) (J : Nat → (Nat → AV) → St → Prop) : UpQ nn n r J Q .ret e σ = Q .ret e σ := (rfl)
@[go_sem] theorem w_upQ_exit (nn n r i : Nat) (J : Nat → (Nat → AV) → St → Prop) : UpQ nn n r J Q (.exit i) e σ = Q (.exit i) e σ := (rfl)
@[go_sem] theorem w_region (ops : List AOper) : awp H (.region ops none) Q e σ = runs H ops (Q .nrm) e σ := by simp [awp, regK]
@[go_sem] theorem w_regiond (ops : List AOper) (k : Nat) : awp H (.region ops (some k)) Q e σ = druns H σ.n σ.c k ops 0 (Q .nrm) [] [] e σ := by simp [awp, regK]
section
variable {n0 c0 k0 p n c : Nat} {R V : List (Nat × Nat)} {af : List Nat} {kk : List (Nat × Nat) → List (Nat × Nat) → AV → St → Prop} {kd : List (Nat × Nat) → List (Nat × Nat) → (Nat → AV) → St → Prop} {ob : Nat → Option AObj}
@[go_sem] theorem w_druns_nil : druns H n0 c0 k0 [] p k R V e σ = k e ⟨σ.ob, n0 + k0, c0 + k0⟩ := (rfl)
@[go_sem] theorem w_druns_cons (d : Option Nat) (op : AOp) (r : List AOper) : druns H n0 c0 k0 (⟨d, op, none, af⟩ :: r) p k R V e σ = dop H op af R V p (n0 + p) (c0 + p) (DCont (druns H n0 c0 k0 r (p + 1) k) e d) e σ.ob := (rfl)
@[go_sem] theorem w_druns_guard (d : Option Nat) (op : AOp) (r : List AOper) (s : Nat) (w : Bool) :
  druns H n0 c0 k0 (⟨d, op, some (s, w), af⟩ :: r) p k R V e σ = gdK s w (DGuardA H op d af R V p (n0 + p) (c0 + p) (druns H n0 c0 k0 r (p + 1) k)) (GuardB d (druns H n0 c0 k0 r (p + 1) k R V)) (e s) e σ := rfl
@[go_sem] theorem w_dguardA (op : AOp) (d : Option Nat) : DGuardA H op d af R V p n c kd e σ = dop H op af R V p n c (DCont kd e d) e σ.ob := (rfl)
@[go_sem] theorem w_dcont (d : Option Nat) (v : AV) : DCont kd e d R V v σ = kd R V (puts e d v) σ := (rfl)
@[go_sem] theorem w_tag_nil : tag p [] = [] := (rfl)
@[go_sem] theorem w_tag_cons (i : Nat) (l : List Nat) : tag p (i :: l) = (p, i) :: tag p l := (rfl)
@[go_sem] theorem w_noMeet_nil (l : List Nat) : noMeet af [] l = True := by simp [noMeet]
@[go_sem] theorem w_noMeet_nil' (V : List (Nat × Nat)) : noMeet af V [] = True := by simp [noMeet]
@[go_sem] theorem w_noMeet_cons (q i j : Nat) (l : List Nat) : noMeet af ((q, i) :: V) (j :: l) = ((q ∈ af ∨ i ∉ j :: l) ∧ noMeet af V (j :: l)) := by
 unfold noMeet
 rw [List.forall_mem_cons, eq_iff_iff]
 refine and_congr (or_congr (by simp) ?_) Iff.rfl
 constructor
 ·intro h hm; exact h i hm rfl
 ·intro h k hk he; exact h (by have he : i = k := he; rw [he]; exact hk)
@[go_sem] theorem w_dop_mv (x : AX) : dop H (.mv x) af R V p n c kk e ob = run1 H (.mv x) e ⟨ob, n, c⟩ (kk R V) := by simp [dop, AOp.asCall, AOp.asMap, dstep, AOp.nd, AOp.rds, AOp.wrs, noMeet, tag]
@[go_sem] theorem w_dop_pick (x a b : AX) : dop H (.pick x a b) af R V p n c kk e ob = run1 H (.pick x a b) e ⟨ob, n, c⟩ (kk R V) := by simp [dop, AOp.asCall, AOp.asMap, dstep, AOp.nd, AOp.rds, AOp.wrs, noMeet, tag]
@[go_sem] theorem w_dop_build (zs : List AV) (ps : List (Nat × Nat × AX)) : dop H (.build zs ps) af R V p n c kk e ob = run1 H (.build zs ps) e ⟨ob, n, c⟩ (kk R V) := by simp [dop, AOp.asCall, AOp.asMap, dstep, AOp.nd, AOp.rds, AOp.wrs, noMeet, tag]
@[go_sem] theorem w_dop_nilchk (x : AX) : dop H (.nilchk x) af R V p n c kk e ob = run1 H (.nilchk x) e ⟨ob, n, c⟩ (kk R V) := by simp [dop, AOp.asCall, AOp.asMap, dstep, AOp.nd, AOp.rds, AOp.wrs, noMeet, tag]
@[go_sem] theorem w_dop_bin (o : BinOp) (x y : AX) : dop H (.bin o x y) af R V p n c kk e ob = run1 H (.bin o x y) e ⟨ob, n, c⟩ (kk R V) := by simp [dop, AOp.asCall, AOp.asMap, dstep, AOp.nd, AOp.rds, AOp.wrs, noMeet, tag]
@[go_sem] theorem w_dop_fa (o : Nat) (x : AX) : dop H (.fa o x) af R V p n c kk e ob = run1 H (.fa o x) e ⟨ob, n, c⟩ (kk R V) := by simp [dop, AOp.asCall, AOp.asMap, dstep, AOp.nd, AOp.rds, AOp.wrs, noMeet, tag]
@[go_sem] theorem w_dop_len (x : AX) : dop H (.len x) af R V p n c kk e ob = run1 H (.len x) e ⟨ob, n, c⟩ (kk R V) := by simp [dop, AOp.asCall, AOp.asMap, dstep, AOp.nd, AOp.rds, AOp.wrs, noMeet, tag]
@[go_sem] theorem w_dop_load (ag : Bool) (sz : Nat) (x : AX) : dop H (.load ag sz x) af R V p n c kk e ob = (noMeet af V (x.ev e).oid ∧ run1 H (.load ag sz x) e ⟨ob, n, c⟩ (kk (R ++ tag p (x.ev e).oid) V)) := by simp [dop, AOp.asCall, AOp.asMap, dstep, AOp.nd, AOp.rds, AOp.wrs, noMeet, tag]
@[go_sem] theorem w_dop_ixs (es : Nat) (x i : AX) : dop H (.ixs es x i) af R V p n c kk e ob = (noMeet af V (x.ev e).oid ∧ run1 H (.ixs es x i) e ⟨ob, n, c⟩ (kk (R ++ tag p (x.ev e).oid) V)) := by simp [dop, AOp.asCall, AOp.asMap, dstep, AOp.nd, AOp.rds, AOp.wrs, noMeet, tag]
@[go_sem] theorem w_dop_store (sz : Nat) (x v : AX) : dop H (.store sz x v) af R V p n c kk e ob = (noMeet af V (x.ev e).oid ∧ noMeet af R (x.ev e).oid ∧ run1 H (.store sz x v) e ⟨ob, n, c⟩ (kk (R ++ tag p (x.ev e).oid) (V ++ tag p (x.ev e).oid))) := by
 simp only [dop, AOp.asMap, AOp.asCall, dstep, AOp.nd, AOp.rds, AOp.wrs]
 simp [noMeet]
@[go_sem] theorem w_dop_lit (mu : Bool) (es : Nat) (ty : TypeId) (l : List AX) : dop H (.lit mu es ty l) af R V p n c kk e ob = (noMeet af V [n] ∧ noMeet af R [n] ∧ run1 H (.lit mu es ty l) e ⟨ob, n, c⟩ (kk R (V ++ [(p, n)]))) := by simp [dop, AOp.asCall, AOp.asMap, dstep, AOp.nd, AOp.rds, AOp.wrs, tag]
@[go_sem] theorem w_dop_mks_f (es b : Nat) (ty : TypeId) (z : AV) (x : AX) : dop H (.mks false es b ty z x) af R V p n c kk e ob = run1 H (.mks false es b ty z x) e ⟨ob, n, c⟩ (kk R V) := by simp [dop, AOp.asCall, AOp.asMap, dstep, AOp.nd, AOp.rds, AOp.wrs, noMeet, tag]
@[go_sem] theorem w_dop_app (es b : Nat) (ty : TypeId) (x y : AX) : dop H (.app es b ty x y) af R V p n c kk e ob = (noMeet af V (((x.ev e).oid ++ (y.ev e).oid) ++ appW n (x.ev e)) ∧ noMeet af R (appW n (x.ev e)) ∧
  run1 H (.app es b ty x y) e ⟨ob, n, c⟩ (kk (R ++ tag p ((x.ev e).oid ++ (y.ev e).oid)) (V ++ tag p (appW n (x.ev e))))) := by simp only [dop, AOp.asMap, AOp.asCall, dstep, AOp.nd, AOp.rds, AOp.wrs, true_and]
@[go_sem] theorem w_appW_nil : appW n .nil = [n] := (rfl)
@[go_sem] theorem w_oid_sl (id g es o m : Nat) : AV.oid (.sl id g es o m) = [id] := (rfl)
@[go_sem] theorem w_oid_ptr (id g es o m : Nat) : AV.oid (.ptr id g es o m) = [id] := (rfl)
@[go_sem] theorem w_oid_rptr (es o m : Nat) (l : List AV) : AV.oid (.rptr es l o m) = [] := (rfl)
@[go_sem] theorem w_oid_list (es : Nat) (l : List AV) : AV.oid (.list es l) = [] := (rfl)
@[go_sem] theorem w_oid_nil : AV.oid .nil = [] := (rfl)
@[go_sem] theorem w_dop_mkmap : dop H .mkmap af R V p n c kk e ob = (noMeet af V [n] ∧ noMeet af R [n] ∧ run1 H .mkmap e ⟨ob, n, c⟩ (kk R (V ++ [(p, n)]))) := by simp [dop, AOp.asCall, AOp.asMap, dstep, AOp.nd, AOp.rds, AOp.wrs, tag]
@[go_sem] theorem w_dop_mapset (x k v : AX) : dop H (.mapset x k v) af R V p n c kk e ob = dmap (x.ev e) (k.ev e) (v.ev e) af R V p n c kk ob := (rfl)
@[go_sem] theorem w_dmap (id g : Nat) (kq : IntKind) (q : Int) (v : AV) : dmap (.mapo id g) (.int kq q) v af R V p n c kk ob = (v.one = true ∧ kOk kq = true ∧ noMeetK af V id ∧ noMeetK af R id ∧ ∃ o, ob id = some o ∧ o.g = g ∧ o.ro = false ∧ keysOk kq o.l = true ∧ mget q o.l = none ∧
   kk R (V ++ [(mapK + p, id)]) .junk ⟨upd ob id (some { o with l := mset kq q v o.l }), n, c⟩) := (rfl)
@[go_sem] theorem w_noMeetK_nil (id : Nat) : noMeetK af [] id = True := by simp [noMeetK]
@[go_sem] theorem w_noMeetK_cons (q i id : Nat) : noMeetK af ((q, i) :: V) id = ((q ∈ af ∨ i ≠ id ∨ mapK ≤ q) ∧ noMeetK af V id) := by simp [noMeetK]
end
section
variable {p : Nat} {d : Option Nat} {af : List Nat} {R : List (Nat × Nat)} {kk : List (Nat × Nat) → (Nat → AV) → St → Prop} {ob ob' : Nat → Option AObj} {v : AV} {τ : St} {L : List HS}
@[go_sem] theorem w_tagR_nil : tagR p [] = [] := (rfl)
@[go_sem] theorem w_tagR_cons (i : Nat) (l : List Nat) : tagR p (i :: l) = (p, i) :: tagR p l := (rfl)
@[go_sem] theorem w_hkeep_nil : hkeep af [] ob ob' = True := by simp [hkeep]
@[go_sem] theorem w_hkeep_cons (q i : Nat) : hkeep af ((q, i) :: R) ob ob' = ((q ∈ af ∨ ob' i = ob i) ∧ hkeep af R ob ob') := by simp [hkeep]
@[go_sem] theorem w_hkeep_self : hkeep af R ob ob = True := by simp [hkeep]
@[go_sem] theorem w_hlt : HLt kk R e d σ v τ = kk R (puts e d v) σ := (rfl)
@[go_sem] theorem w_hhv : HHv kk af R e d ob v τ = (hkeep af R ob τ.ob ∧ kk R (puts e d v) τ) := (rfl)
@[go_sem] theorem w_honeG (op : AOp) : HoneG H p op d af kk R e σ = hone H p op d af kk R e σ := (rfl)
@[go_sem] theorem w_hoffG : HoffG d kk R e σ = kk R (puts e d (.tuple [])) σ := (rfl)
@[go_sem] theorem w_hruns_nil : hruns H [] k R e σ = k e σ := (rfl)
@[go_sem] theorem w_hruns_cons (op : AOp) : hruns H (⟨p, ⟨d, op, none, af⟩⟩ :: L) k R e σ = hone H p op d af (hruns H L k) R e σ := (rfl)
@[go_sem] theorem w_hruns_guard (op : AOp) (s : Nat) (w : Bool) : hruns H (⟨p, ⟨d, op, some (s, w), af⟩⟩ :: L) k R e σ = gdK s w (HoneG H p op d af (hruns H L k) R) (HoffG d (hruns H L k) R) (e s) e σ := (rfl)
@[go_sem] theorem w_hregion : awp H (.hregion L) Q e σ = hruns H L (Q .nrm) [] e σ := (rfl)
@[go_sem] theorem w_hone_mv (x : AX) : hone H p (.mv x) d af kk R e σ = run1 H (.mv x) e σ (HLt kk R e d σ) := by simp [hone, AOp.lt, AOp.new, AOp.nd, AOp.rds, tagR]
@[go_sem] theorem w_hone_pick (x a b : AX) : hone H p (.pick x a b) d af kk R e σ = run1 H (.pick x a b) e σ (HLt kk R e d σ) := by simp [hone, AOp.lt, AOp.new, AOp.nd, AOp.rds, tagR]
@[go_sem] theorem w_hone_build (zs : List AV) (ps : List (Nat × Nat × AX)) : hone H p (.build zs ps) d af kk R e σ = run1 H (.build zs ps) e σ (HLt kk R e d σ) := by simp [hone, AOp.lt, AOp.new, AOp.nd, AOp.rds, tagR]
@[go_sem] theorem w_hone_nilchk (x : AX) : hone H p (.nilchk x) d af kk R e σ = run1 H (.nilchk x) e σ (HLt kk R e d σ) := by simp [hone, AOp.lt, AOp.new, AOp.nd, AOp.rds, tagR]
@[go_sem] theorem w_hone_bin (o : BinOp) (x y : AX) : hone H p (.bin o x y) d af kk R e σ = run1 H (.bin o x y) e σ (HLt kk R e d σ) := by simp [hone, AOp.lt, AOp.new, AOp.nd, AOp.rds, tagR]
@[go_sem] theorem w_hone_eqb (g : Bool) (x y : AX) : hone H p (.eqb g x y) d af kk R e σ = run1 H (.eqb g x y) e σ (HLt kk R e d σ) := by simp [hone, AOp.lt, AOp.new, AOp.nd, AOp.rds, tagR]
@[go_sem] theorem w_hone_eqs (g : Bool) (ks : List Nat) (x y : AX) : hone H p (.eqs g ks x y) d af kk R e σ = run1 H (.eqs g ks x y) e σ (HLt kk R e d σ) := by simp [hone, AOp.lt, AOp.new, AOp.nd, AOp.rds, tagR]
@[go_sem] theorem w_hone_un (u : UnOp) (x : AX) : hone H p (.un u x) d af kk R e σ = run1 H (.un u x) e σ (HLt kk R e d σ) := by simp [hone, AOp.lt, AOp.new, AOp.nd, AOp.rds, tagR]
@[go_sem] theorem w_hone_mkf (f : Nat) (l : List AX) : hone H p (.mkf f l) d af kk R e σ = run1 H (.mkf f l) e σ (HLt kk R e d σ) := by simp [hone, AOp.lt, AOp.new, AOp.nd, AOp.rds, tagR]
@[go_sem] theorem w_hone_fa (o : Nat) (x : AX) : hone H p (.fa o x) d af kk R e σ = run1 H (.fa o x) e σ (HLt kk R e d σ) := by simp [hone, AOp.lt, AOp.new, AOp.nd, AOp.rds, tagR]
@[go_sem] theorem w_hone_ext (x : AX) (i : Nat) : hone H p (.ext x i) d af kk R e σ = run1 H (.ext x i) e σ (HLt kk R e d σ) := by simp [hone, AOp.lt, AOp.new, AOp.nd, AOp.rds, tagR]
@[go_sem] theorem w_hone_len (x : AX) : hone H p (.len x) d af kk R e σ = run1 H (.len x) e σ (HLt kk R e d σ) := by simp [hone, AOp.lt, AOp.new, AOp.nd, AOp.rds, tagR]
@[go_sem] theorem w_hone_lens (x : AX) : hone H p (.lens x) d af kk R e σ = run1 H (.lens x) e σ (HLt kk R e d σ) := by simp [hone, AOp.lt, AOp.new, AOp.nd, AOp.rds, tagR]
@[go_sem] theorem w_hone_mnx (g : Bool) (x : AX) (l : List AX) : hone H p (.mnx g x l) d af kk R e σ = run1 H (.mnx g x l) e σ (HLt kk R e d σ) := by simp [hone, AOp.lt, AOp.new, AOp.nd, AOp.rds, tagR]
@[go_sem] theorem w_hone_slcs (x : AX) (lo hi : Option AX) : hone H p (.slcs x lo hi) d af kk R e σ = run1 H (.slcs x lo hi) e σ (HLt kk R e d σ) := by simp [hone, AOp.lt, AOp.new, AOp.nd, AOp.rds, tagR]
@[go_sem] theorem w_hone_pu (q : PuOp) (l : List AX) : hone H p (.pu q l) d af kk R e σ = run1 H (.pu q l) e σ (HLt kk R e d σ) := by simp [hone, AOp.lt, AOp.new, AOp.nd, AOp.rds, tagR]
@[go_sem] theorem w_hone_slca (es nn : Nat) (x : AX) (lo hi : Option AX) : hone H p (.slca es nn x lo hi) d af kk R e σ = run1 H (.slca es nn x lo hi) e σ (HLt kk R e d σ) := by simp [hone, AOp.lt, AOp.new, AOp.nd, AOp.rds, tagR]
@[go_sem] theorem w_hone_load (ag : Bool) (sz : Nat) (x : AX) : hone H p (.load ag sz x) d af kk R e σ = run1 H (.load ag sz x) e σ (HLt kk (R ++ tagR p (x.ev e).oid) e d σ) := by simp [hone, AOp.lt, AOp.new, AOp.nd, AOp.rds, tagR]
@[go_sem] theorem w_hone_ixs (es : Nat) (x i : AX) : hone H p (.ixs es x i) d af kk R e σ = run1 H (.ixs es x i) e σ (HLt kk (R ++ tagR p (x.ev e).oid) e d σ) := by simp [hone, AOp.lt, AOp.new, AOp.nd, AOp.rds, tagR]
@[go_sem] theorem w_hone_slc (es : Nat) (x : AX) (lo hi : Option AX) : hone H p (.slc es x lo hi) d af kk R e σ = run1 H (.slc es x lo hi) e σ (HLt kk (R ++ tagR p (x.ev e).oid) e d σ) := by simp [hone, AOp.lt, AOp.new, AOp.nd, AOp.rds, tagR]
@[go_sem] theorem w_hone_store (sz : Nat) (x v : AX) : hone H p (.store sz x v) d af kk R e σ = run1 H (.store sz x v) e σ (HHv kk af R e d σ.ob) := by simp [hone, AOp.lt, AOp.new, AOp.nd]
@[go_sem] theorem w_hone_alloc (es : Nat) (ty : TypeId) (z : AV) : hone H p (.alloc es ty z) d af kk R e σ = run1 H (.alloc es ty z) e σ (HHv kk af R e d σ.ob) := by simp [hone, AOp.lt, AOp.new, AOp.nd]
@[go_sem] theorem w_hone_lit_t (es : Nat) (ty : TypeId) (l : List AX) : hone H p (.lit true es ty l) d af kk R e σ = run1 H (.lit true es ty l) e σ (HHv kk af R e d σ.ob) := by simp [hone, AOp.lt, AOp.new]
@[go_sem] theorem w_hone_lit_f (es : Nat) (ty : TypeId) (l : List AX) : hone H p (.lit false es ty l) d af kk R e σ = run1 H (.lit false es ty l) e σ (HLt kk R e d σ) := by simp [hone, AOp.lt, AOp.rds, tagR]
@[go_sem] theorem w_hone_app (es b : Nat) (ty : TypeId) (x y : AX) : hone H p (.app es b ty x y) d af kk R e σ = run1 H (.app es b ty x y) e σ (HHv kk af R e d σ.ob) := by simp [hone, AOp.lt, AOp.new, AOp.nd]
@[go_sem] theorem w_hone_call (f : Nat) (l : List AX) : hone H p (.call f l) d af kk R e σ = run1 H (.call f l) e σ (HHv kk af R e d σ.ob) := by simp [hone, AOp.lt, AOp.new, AOp.nd]
@[go_sem] theorem w_hone_cpy (es : Nat) (x y : AX) : hone H p (.cpy es x y) d af kk R e σ = run1 H (.cpy es x y) e σ (HHv kk af R e d σ.ob) := by simp [hone, AOp.lt, AOp.new, AOp.nd]
@[go_sem] theorem w_hone_mp (q : MpOp) (x : AX) (l : List AX) : hone H p (.mp q x l) d af kk R e σ = run1 H (.mp q x l) e σ (HHv kk af R e d σ.ob) := by simp [hone, AOp.lt, AOp.new, AOp.nd]
@[go_sem] theorem w_hone_mapget (ok : Bool) (z : AV) (x q : AX) : hone H p (.mapget ok z x q) d af kk R e σ = run1 H (.mapget ok z x q) e σ (HHv kk af R e d σ.ob) := by simp [hone, AOp.lt, AOp.new, AOp.nd]
end
@[go_sem] theorem w_cond (c : AX) (a b : ACode) : awp H (.cond c a b) Q e σ = condK (c.ev e) (awp H a Q) (awp H b Q) e σ := (rfl)
@[go_sem] theorem w_cond_true (A B : (Nat → AV) → St → Prop) : condK (.bool true) A B e σ = A e σ := by simp [condK]
@[go_sem] theorem w_cond_false (A B : (Nat → AV) → St → Prop) : condK (.bool false) A B e σ = B e σ := by simp [condK]
theorem cond_split {b : Bool} {A B : (Nat → AV) → St → Prop} (hA : b = true → A e σ) (hB : b = false → B e σ) : condK (.bool b) A B e σ := ⟨hA, hB⟩
theorem cond_d {p : Prop} [Decidable p] {A B : (Nat → AV) → St → Prop} (hA : p → A e σ) (hB : ¬ p → B e σ) : condK (.bool (decide p)) A B e σ := ⟨fun h => hA (of_decide_eq_true h), fun h => hB (of_decide_eq_false h)⟩
theorem cond_n {p : Prop} [Decidable p] {A B : (Nat → AV) → St → Prop} (hA : ¬ p → A e σ) (hB : p → B e σ) : condK (.bool (!decide p)) A B e σ := ⟨fun h => hA (by simpa using h), fun h => hB (by simpa using h)⟩
@[go_sem] theorem w_block (id : Nat) (a : ACode) : awp H (.block id a) Q e σ = awp H a (BlockQ id Q) e σ := (rfl)
@[go_sem] theorem w_exit (id : Nat) : awp H (.exit id) Q e σ = Q (.exit id) e σ := (rfl)
@[go_sem] theorem w_ret : awp H .ret Q e σ = Q .ret e σ := (rfl)
@[go_sem] theorem w_skip : awp H .skip Q e σ = Q .nrm e σ := (rfl)
@[go_sem] theorem w_retQ_ret (rs : List RS) (R : AV → St → Prop) : RetQ rs R .ret e σ = resK e σ rs (fun r => R r σ) := (rfl)
theorem awp_up {a : ACode} (n : Nat) (J : Nat → (Nat → AV) → St → Prop) (h0 : J 0 e σ) (h : ∀ r e1 ob c, r ≤ n → J r e1 ⟨ob, σ.n, c⟩ → awp H a (UpQ σ.n n r J Q) e1 ⟨ob, σ.n, c⟩) : awp H (.loop a) Q e σ := by
 refine ⟨upI σ.n n J, ⟨n, rfl, 0, Nat.zero_le _, rfl, h0⟩, ?_⟩
 rintro i e1 ⟨ob, n', c⟩ ⟨hn, r, hr, rfl, hJ⟩
 simp only at hn
 subst hn
 exact h r e1 ob c hr hJ
@[go_sem] theorem w_res1_t (s : Nat) (K : AV → Prop) : res1 e σ (.t s) K = K (e s) := (rfl)
@[go_sem] theorem w_res_1 (s : RS) (K : AV → Prop) : resK e σ [s] K = res1 e σ s K := (rfl)
@[go_sem] theorem w_res_2 (s t : Nat) (K : AV → Prop) : resK e σ [.t s, .t t] K = K (.tuple [e s, e t]) := (rfl)
@[go_sem] theorem w_res_3 (s t u : Nat) (K : AV → Prop) : resK e σ [.t s, .t t, .t u] K = K (.tuple [e s, e t, e u]) := (rfl)
@[go_sem] theorem w_res_4 (s t u v : Nat) (K : AV → Prop) : resK e σ [.t s, .t t, .t u, .t v] K = K (.tuple [e s, e t, e u, e v]) := (rfl)
def resC2 (t : Nat) (e : Nat → AV) (K : AV → Prop) (a : AV) : Prop := K (.tuple [a, e t])
def resC3 (t u : Nat) (e : Nat → AV) (K : AV → Prop) (a : AV) : Prop := K (.tuple [a, e t, e u])
@[go_sem] theorem w_resC2 (t : Nat) (K : AV → Prop) (a : AV) : resC2 t e K a = K (.tuple [a, e t]) := (rfl)
@[go_sem] theorem w_resC3 (t u : Nat) (K : AV → Prop) (a : AV) : resC3 t u e K a = K (.tuple [a, e t, e u]) := (rfl)
@[go_sem] theorem w_res_c2 (s : Nat) (ag : Bool) (sz t : Nat) (K : AV → Prop) : resK e σ [.c s ag sz, .t t] K = res1 e σ (.c s ag sz) (resC2 t e K) := (rfl)
@[go_sem] theorem w_res_c3 (s : Nat) (ag : Bool) (sz t u : Nat) (K : AV → Prop) : resK e σ [.c s ag sz, .t t, .t u] K = res1 e σ (.c s ag sz) (resC3 t u e K) := (rfl)
def resN (e : Nat → AV) (σ : St) (rs : List RS) (acc : List AV) (K : AV → Prop) (a : AV) : Prop := resL e σ rs fun l => K (mkRes (acc ++ a :: l))
@[go_sem] theorem w_res_cc (s : Nat) (ag : Bool) (sz : Nat) (s' : Nat) (ag' : Bool) (sz' : Nat) (r : List RS) (K : AV → Prop) : resK e σ (.c s ag sz :: .c s' ag' sz' :: r) K = res1 e σ (.c s ag sz) (resN e σ (.c s' ag' sz' :: r) [] K) := (rfl)
@[go_sem] theorem w_res_tc (s s' : Nat) (ag' : Bool) (sz' : Nat) (r : List RS) (K : AV → Prop) : resK e σ (.t s :: .c s' ag' sz' :: r) K = resN e σ (.c s' ag' sz' :: r) [] K (e s) := (rfl)
@[go_sem] theorem w_res_ct (s : Nat) (ag : Bool) (sz : Nat) (t u v : Nat) (r : List RS) (K : AV → Prop) : resK e σ (.c s ag sz :: .t t :: .t u :: .t v :: r) K = res1 e σ (.c s ag sz) (resN e σ (.t t :: .t u :: .t v :: r) [] K) := (rfl)
@[go_sem] theorem w_resN_0 (acc : List AV) (K : AV → Prop) (a : AV) : resN e σ [] acc K a = K (mkRes (acc ++ [a])) := (rfl)
@[go_sem] theorem w_resN_t (s : Nat) (r : List RS) (acc : List AV) (K : AV → Prop) (a : AV) : resN e σ (.t s :: r) acc K a = resN e σ r (acc ++ [a]) K (e s) := by simp only [resN, resL, res1, List.append_assoc, List.cons_append, List.nil_append]
@[go_sem] theorem w_resN_c (s : Nat) (ag : Bool) (sz : Nat) (r : List RS) (acc : List AV) (K : AV → Prop) (a : AV) : resN e σ (.c s ag sz :: r) acc K a = res1 e σ (.c s ag sz) (resN e σ r (acc ++ [a]) K) := by
 have : (fun b => resN e σ r (acc ++ [a]) K b) = fun b => resL e σ r fun l => K (mkRes (acc ++ a :: b :: l)) := by funext b; simp only [resN, List.append_assoc, List.cons_append, List.nil_append]
 show _ = res1 e σ (.c s ag sz) (fun b => resN e σ r (acc ++ [a]) K b)
 rw [this]; rfl
@[go_sem] theorem w_mkRes (a b : AV) (l : List AV) : mkRes (a :: b :: l) = .tuple (a :: b :: l) := (rfl)
@[go_sem] theorem w_res1_c (s : Nat) (ag : Bool) (sz : Nat) (K : AV → Prop) : res1 e σ (.c s ag sz) K = resCC ag sz σ K (e s) := (rfl)
@[go_sem] theorem w_resCC (ag : Bool) (sz id g es i off : Nat) (K : AV → Prop) : resCC ag sz σ K (.ptr id g es i off) = ∃ o, σ.ob id = some o ∧ o.g = g ∧ o.es = es ∧ off + sz ≤ es ∧ ∃ y, o.l[i]? = some y ∧ K (sub ag sz off y) := (rfl)
@[go_sem] theorem w_mv (x : AX) : run1 H (.mv x) e σ C = C (x.ev e) σ := (rfl)
@[go_sem] theorem w_pick (c a b : AX) : run1 H (.pick c a b) e σ C = pickC (c.ev e) (a.ev e) (b.ev e) σ C := (rfl)
@[go_sem] theorem w_pick_true (a b : AV) : pickC (.bool true) a b σ C = C a σ := by simp [pickC]
@[go_sem] theorem w_pick_false (a b : AV) : pickC (.bool false) a b σ C = C b σ := by simp [pickC]
@[go_sem] theorem w_alloc (es : Nat) (ty : TypeId) (z : AV) : run1 H (.alloc es ty z) e σ C = C (.ptr σ.n σ.c es 0 0) (σ.push es ty [z]) := (rfl)
@[go_sem] theorem w_box (es : Nat) (ty : TypeId) (x : AX) : run1 H (.box es ty x) e σ C = boxC es ty (x.ev e) σ C := (rfl)
@[go_sem] theorem w_boxC (es : Nat) (ty : TypeId) (v : AV) : boxC es ty v σ C = (v.flat = true ∧ v.cells.length = es ∧ C (.ptr σ.n σ.c es 0 0) (σ.push es ty [v])) := (rfl)
@[go_sem] theorem w_build (zs : List AV) (ps : List (Nat × Nat × AX)) : run1 H (.build zs ps) e σ C = buildC zs (evp e ps) σ C := (rfl)
@[go_sem] theorem w_buildC (zs : List AV) (ps : List (Nat × Nat × AV)) : buildC zs ps σ C = ((∀ p ∈ ps, p.2.2.flat = true ∧ p.2.2.cells.length = p.2.1 ∧ p.1 + p.2.1 ≤ zs.length) ∧ C (.agg (fillA zs (ps.map fun p => (p.1, p.2.2)))) σ) := (rfl)
@[go_sem] theorem w_lit (mu : Bool) (es : Nat) (ty : TypeId) (xs : List AX) : run1 H (.lit mu es ty xs) e σ C = litC mu es ty (evs e xs) σ C := (rfl)
@[go_sem] theorem w_litC_f (es : Nat) (ty : TypeId) (vs : List AV) : litC false es ty vs σ C = ((∀ v ∈ vs, v.flat = true ∧ v.cells.length = es ∧ v.pur = true) ∧ C (.list es vs) σ) := by simp [litC]
@[go_sem] theorem w_litC_t (es : Nat) (ty : TypeId) (vs : List AV) : litC true es ty vs σ C = ((∀ v ∈ vs, v.flat = true ∧ v.cells.length = es) ∧ C (.sl σ.n σ.c es 0 vs.length) (σ.push es ty vs)) := by simp [litC]
@[go_sem] theorem w_load (ag : Bool) (sz : Nat) (x : AX) : run1 H (.load ag sz x) e σ C = loadC ag sz (x.ev e) σ C := (rfl)
@[go_sem] theorem w_loadC_p (ag : Bool) (sz id g es i off : Nat) : loadC ag sz (.ptr id g es i off) σ C = ∃ o, σ.ob id = some o ∧ o.g = g ∧ o.es = es ∧ off + sz ≤ es ∧ ∃ y, o.l[i]? = some y ∧ C (sub ag sz off y) σ := (rfl)
@[go_sem] theorem w_loadC_r (ag : Bool) (sz es i off : Nat) (l : List AV) : loadC ag sz (.rptr es l i off) σ C = (off + sz ≤ es ∧ ∃ y, l[i]? = some y ∧ C (sub ag sz off y) σ) := (rfl)
@[go_sem] theorem w_store (sz : Nat) (x v : AX) : run1 H (.store sz x v) e σ C = storeC sz (x.ev e) (v.ev e) σ C := (rfl)
@[go_sem] theorem w_storeC (sz id g es i off : Nat) (v : AV) : storeC sz (.ptr id g es i off) v σ C = ∃ o, σ.ob id = some o ∧ o.g = g ∧ o.es = es ∧ o.ro = false ∧ v.flat = true ∧ v.cells.length = sz ∧ off + sz ≤ es ∧
   ∃ y, o.l[i]? = some y ∧ C .junk (σ.put id o (o.l.set i (setc off v y))) := rfl
@[go_sem] theorem w_nilchk (x : AX) : run1 H (.nilchk x) e σ C = nilchkC (x.ev e) σ C := (rfl)
@[go_sem] theorem w_nilchk_p (id g es i off : Nat) : nilchkC (.ptr id g es i off) σ C = C (.ptr id g es i off) σ := (rfl)
@[go_sem] theorem w_bin (op : BinOp) (x y : AX) : run1 H (.bin op x y) e σ C = binC op (x.ev e) (y.ev e) σ C := (rfl)
section
variable (K : IntKind) (a b : Int)
@[go_sem] theorem w_add : binC .add (.int K a) (.int K b) σ C = C (.int K (K.wrap (a + b))) σ := by simp [binC, binK]
@[go_sem] theorem w_sub : binC .sub (.int K a) (.int K b) σ C = C (.int K (K.wrap (a - b))) σ := by simp [binC, binK]
@[go_sem] theorem w_mul : binC .mul (.int K a) (.int K b) σ C = C (.int K (K.wrap (a * b))) σ := by simp [binC, binK]
@[go_sem] theorem w_rem : binC .rem (.int K a) (.int K b) σ C = (b ≠ 0 ∧ C (.int K (a.tmod b)) σ) := by simp [binC, binK]
@[go_sem] theorem w_eql : binC .eql (.int K a) (.int K b) σ C = C (.bool (decide (a = b))) σ := by simp [binC, binK]
@[go_sem] theorem w_neq : binC .neq (.int K a) (.int K b) σ C = C (.bool (!decide (a = b))) σ := by simp [binC, binK]
@[go_sem] theorem w_lss : binC .lss (.int K a) (.int K b) σ C = C (.bool (decide (a < b))) σ := by simp [binC, binK]
@[go_sem] theorem w_leq : binC .leq (.int K a) (.int K b) σ C = C (.bool (decide (a ≤ b))) σ := by simp [binC, binK]
@[go_sem] theorem w_gtr : binC .gtr (.int K a) (.int K b) σ C = C (.bool (decide (b < a))) σ := by simp [binC, binK]
@[go_sem] theorem w_geq : binC .geq (.int K a) (.int K b) σ C = C (.bool (decide (b ≤ a))) σ := by simp [binC, binK]
end
@[go_sem] theorem w_adds (a b : ByteArray) : binC .add (.str a) (.str b) σ C = (a.size + b.size ≤ 9223372036854775807 ∧ C (.str (a ++ b)) σ) := by simp [binC, binK]
@[go_sem] theorem w_eqb (neg : Bool) (x y : AX) : run1 H (.eqb neg x y) e σ C = eqbC neg (x.ev e) (y.ev e) σ C := (rfl)
@[go_sem] theorem w_eqbC_f (a b : Bool) : eqbC false (.bool a) (.bool b) σ C = C (.bool (decide (a = b))) σ := (rfl)
@[go_sem] theorem w_eqbC_t (a b : Bool) : eqbC true (.bool a) (.bool b) σ C = C (.bool (!decide (a = b))) σ := (rfl)
@[go_sem] theorem w_eqs (g : Bool) (ks : List Nat) (x y : AX) : run1 H (.eqs g ks x y) e σ C = eqsC g ks (x.ev e) (y.ev e) σ C := (rfl)
@[go_sem] theorem w_eqsC_f (ks : List Nat) (cs ds : List AV) : eqsC false ks (.agg cs) (.agg ds) σ C = ∃ b, eqA ks cs ds = some b ∧ C (.bool b) σ := by simp [eqsC]
@[go_sem] theorem w_eqsC_t (ks : List Nat) (cs ds : List AV) : eqsC true ks (.agg cs) (.agg ds) σ C = ∃ b, eqA ks cs ds = some b ∧ C (.bool (!b)) σ := by simp [eqsC]
@[go_sem] theorem w_eqA_nil : eqA [] [] [] = some true := (rfl)
@[go_sem] theorem w_eqA_int (ks : List Nat) (K : IntKind) (a b : Int) (r s : List AV) : eqA (0 :: ks) (.int K a :: r) (.int K b :: s) = (eqA ks r s).map fun t => decide (a = b) && t := by simp [eqA]
@[go_sem] theorem w_un (op : UnOp) (x : AX) : run1 H (.un op x) e σ C = unC op (x.ev e) σ C := (rfl)
@[go_sem] theorem w_not (b : Bool) : unC .not (.bool b) σ C = C (.bool (!b)) σ := (rfl)
@[go_sem] theorem w_conv (K : IntKind) (x : AX) : run1 H (.conv K x) e σ C = convC K (x.ev e) σ C := (rfl)
@[go_sem] theorem w_convC (K K' : IntKind) (n : Int) : convC K (.int K' n) σ C = C (.int K (K.wrap n)) σ := (rfl)
@[go_sem] theorem w_mkf (f : Nat) (l : List AX) : run1 H (.mkf f l) e σ C = C (.func f (evs e l)) σ := (rfl)
@[go_sem] theorem w_fa (off : Nat) (x : AX) : run1 H (.fa off x) e σ C = faC off (x.ev e) σ C := (rfl)
@[go_sem] theorem w_faC_p (off id g es i o : Nat) : faC off (.ptr id g es i o) σ C = C (.ptr id g es i (o + off)) σ := (rfl)
@[go_sem] theorem w_faC_r (off es i o : Nat) (l : List AV) : faC off (.rptr es l i o) σ C = C (.rptr es l i (o + off)) σ := (rfl)
@[go_sem] theorem w_ixs (es : Nat) (x i : AX) : run1 H (.ixs es x i) e σ C = ixsC es (x.ev e) (i.ev e) σ C := (rfl)
@[go_sem] theorem w_ixsC_s (es id g off n : Nat) (K : IntKind) (ix : Int) : ixsC es (.sl id g es off n) (.int K ix) σ C = ((∃ o, σ.ob id = some o ∧ o.g = g) ∧ 0 ≤ ix ∧ ix < n ∧ C (.ptr id g es (off + ix.toNat) 0) σ) := by simp [ixsC]
@[go_sem] theorem w_ixsC_l (es : Nat) (l : List AV) (K : IntKind) (ix : Int) : ixsC es (.list es l) (.int K ix) σ C = (0 ≤ ix ∧ ix < l.length ∧ C (.rptr es l ix.toNat 0) σ) := by simp [ixsC]
@[go_sem] theorem w_ext (x : AX) (i : Nat) : run1 H (.ext x i) e σ C = extC (x.ev e) i σ C := (rfl)
@[go_sem] theorem w_extC_0 (a : AV) (l : List AV) : extC (.tuple (a :: l)) 0 σ C = C a σ := by simp [extC]
@[go_sem] theorem w_extC_1 (a b : AV) (l : List AV) : extC (.tuple (a :: b :: l)) 1 σ C = C b σ := by simp [extC]
@[go_sem] theorem w_extC_2 (a b c : AV) (l : List AV) : extC (.tuple (a :: b :: c :: l)) 2 σ C = C c σ := by simp [extC]
@[go_sem] theorem w_extC_3 (a b c d : AV) (l : List AV) : extC (.tuple (a :: b :: c :: d :: l)) 3 σ C = C d σ := by simp [extC]
@[go_sem] theorem w_len (x : AX) : run1 H (.len x) e σ C = lenC (x.ev e) σ C := (rfl)
@[go_sem] theorem w_len_n : lenC .nil σ C = C (.int .i64 0) σ := (rfl)
@[go_sem] theorem w_len_l (es : Nat) (l : List AV) : lenC (.list es l) σ C = C (.int .i64 l.length) σ := (rfl)
@[go_sem] theorem w_len_s (id g es off n : Nat) : lenC (.sl id g es off n) σ C = C (.int .i64 n) σ := (rfl)
@[go_sem] theorem w_len_k (id g es off n c : Nat) : lenC (.slk id g es off n c) σ C = C (.int .i64 n) σ := (rfl)
@[go_sem] theorem w_lens (x : AX) : run1 H (.lens x) e σ C = lensC (x.ev e) σ C := (rfl)
@[go_sem] theorem w_lensC (s : ByteArray) : lensC (.str s) σ C = C (.int .i64 s.size) σ := (rfl)
@[go_sem] theorem w_app (es b : Nat) (ty : TypeId) (x y : AX) : run1 H (.app es b ty x y) e σ C = appC es b ty (x.ev e) (y.ev e) σ C := (rfl)
@[go_sem] theorem w_app_ll (es b : Nat) (ty : TypeId) (id g n : Nat) (l : List AV) : appC es b ty (.sl id g es 0 n) (.list es l) σ C = ∃ o, σ.ob id = some o ∧ o.g = g ∧ o.es = es ∧ o.ty = ty ∧ o.ro = false ∧ o.ap = true ∧ o.l.length = n ∧
     n + l.length ≤ maxLen ∧ (n + l.length) * b ≤ 140737488355328 ∧ C (.sl id σ.c es 0 (n + l.length)) (σ.renew id o (o.l ++ l)) := by simp [appC, elemsK]
theorem w_app_nl (es b : Nat) (ty : TypeId) (l : List AV) : appC es b ty .nil (.list es l) σ C = (l.length ≤ maxLen ∧ l.length * b ≤ 140737488355328 ∧ (l = [] → C .nil σ) ∧ (l ≠ [] → C (.sl σ.n σ.c es 0 l.length) (σ.push es ty l))) := by simp [appC, elemsK]
@[go_sem] theorem w_mnx (mx : Bool) (x : AX) (xs : List AX) : run1 H (.mnx mx x xs) e σ C = mnxC mx (x.ev e) (evs e xs) σ C := (rfl)
@[go_sem] theorem w_mnx_1 (mx : Bool) (a : AV) : mnxC mx a [] σ C = C a σ := (rfl)
@[go_sem] theorem w_max (K : IntKind) (a b : Int) (l : List AV) : mnxC true (.int K a) (.int K b :: l) σ C = mnxC true (.int K (max a b)) l σ C := by simp [mnxC, minmaxK]
@[go_sem] theorem w_min (K : IntKind) (a b : Int) (l : List AV) : mnxC false (.int K a) (.int K b :: l) σ C = mnxC false (.int K (min a b)) l σ C := by simp [mnxC, minmaxK]
@[go_sem] theorem w_slc (es : Nat) (x : AX) (lo hi : Option AX) : run1 H (.slc es x lo hi) e σ C = slcC es (x.ev e) (evo e lo) (evo e hi) σ C := (rfl)
@[go_sem] theorem w_slcs (x : AX) (lo hi : Option AX) : run1 H (.slcs x lo hi) e σ C = slcsC (x.ev e) (evo e lo) (evo e hi) σ C := (rfl)
section
variable (es : Nat) (l : List AV) (K K' : IntKind) (p q : Int)
@[go_sem] theorem w_slcs_l (s : ByteArray) (hi : Int) : slcsC (.str s) none (some (.int K hi)) σ C = (0 ≤ hi ∧ hi ≤ s.size ∧ C (.str (s.extract 0 hi.toNat)) σ) := (rfl)
@[go_sem] theorem w_slcs_r (s : ByteArray) (lo : Int) : slcsC (.str s) (some (.int K lo)) none σ C = (0 ≤ lo ∧ lo ≤ s.size ∧ C (.str (s.extract lo.toNat s.size)) σ) := (rfl)
@[go_sem] theorem w_slcs_b (s : ByteArray) (lo hi : Int) : slcsC (.str s) (some (.int K lo)) (some (.int K' hi)) σ C = (0 ≤ lo ∧ lo ≤ hi ∧ hi ≤ s.size ∧ C (.str (s.extract lo.toNat hi.toNat)) σ) := (rfl)
@[go_sem] theorem w_slc_l (hi : Int) : slcC es (.list es l) none (some (.int K hi)) σ C = (0 ≤ hi ∧ hi ≤ l.length ∧ C (.list es (l.take hi.toNat)) σ) := by simp [slcC, sliceK, bdsK]
@[go_sem] theorem w_slc_r (lo : Int) : slcC es (.list es l) (some (.int K lo)) none σ C = (0 ≤ lo ∧ lo ≤ l.length ∧ C (.list es (l.drop lo.toNat)) σ) := by simp [slcC, sliceK, bdsK]
@[go_sem] theorem w_slc_sr (id g off n : Nat) (lo : Int) : slcC es (.sl id g es off n) (some (.int K lo)) none σ C = ((∃ o, σ.ob id = some o ∧ o.g = g) ∧ 0 ≤ lo ∧ lo ≤ n ∧ (lo.toNat = n → C (.list es []) σ) ∧ (lo.toNat < n → C (.sl id g es (off + lo.toNat) (n - lo.toNat)) σ)) := by simp [slcC, sliceK, bdsK]
@[go_sem] theorem w_slc_sl (id g off n : Nat) (hi : Int) : slcC es (.sl id g es off n) none (some (.int K hi)) σ C = ((∃ o, σ.ob id = some o ∧ o.g = g) ∧ 0 ≤ hi ∧ hi ≤ n ∧ (0 = hi.toNat → C (.list es []) σ) ∧ (0 < hi.toNat → C (.sl id g es off hi.toNat) σ)) := by simp [slcC, sliceK, bdsK]
end
section
variable (es id g off n c : Nat) (K K' : IntKind) (p q : Int)
@[go_sem] theorem w_slc_kl : slcC es (.slk id g es off n c) none (some (.int K q)) σ C = (off + n ≤ c ∧ 0 ≤ q ∧ q ≤ (c - off : Nat) ∧ (0 = c - off → C (.list es []) σ) ∧ (0 < c - off → C (.slk id g es off q.toNat c) σ)) := by simp [slcC, sliceK, bdsX]
@[go_sem] theorem w_slc_kr : slcC es (.slk id g es off n c) (some (.int K p)) none σ C = (off + n ≤ c ∧ 0 ≤ p ∧ p ≤ n ∧ (p.toNat = c - off → C (.list es []) σ) ∧ (p.toNat < c - off → C (.slk id g es (off + p.toNat) (n - p.toNat) c) σ)) := by simp [slcC, sliceK, bdsX]
@[go_sem] theorem w_slca (nn : Nat) (x : AX) (lo hi : Option AX) : run1 H (.slca es nn x lo hi) e σ C = slcaC es nn (x.ev e) (evo e lo) (evo e hi) σ C := (rfl)
@[go_sem] theorem w_slca_n (nn es' i : Nat) : slcaC es nn (.ptr id g es' i off) none none σ C = ((0 = nn → C (.list es []) σ) ∧ (0 < nn → C (.sla id g es' i off es nn) σ)) := by simp [slcaC, bdsK]
end
@[go_sem] theorem w_pu (p : PuOp) (l : List AX) : run1 H (.pu p l) e σ C = puC p (evs e l) σ C := (rfl)
section
variable (K K' : IntKind) (a b : Int)
@[go_sem] theorem w_bit (op : BinOp) : puC (.bit op) [.int K a, .int K' b] σ C = ∃ v, bitD op K a K' b = some v ∧ C v σ := (rfl)
@[go_sem] theorem w_sidx (s : ByteArray) : puC .sidx [.str s, .int K a] σ C = ∃ v, (if 0 ≤ a then (s[a.toNat]?).map fun b => AV.int .u8 b.toNat else none) = some v ∧ C v σ := (rfl)
@[go_sem] theorem w_fld (ag : Bool) (sz off : Nat) (cs : List AV) : puC (.fld ag sz off) [.agg cs] σ C = (off + sz ≤ cs.length ∧ C (sub ag sz off (.agg cs)) σ) := by
 simp only [puC, puD]
 by_cases h : off + sz ≤ cs.length <;> simp [h]
end
@[go_sem] theorem w_cap0_k (id g es off n c : Nat) : puC .cap0 [.slk id g es off n c] σ C = C (.int .i64 ((c - off : Nat) : Int)) σ := by simp [puC, puD]
@[go_sem] theorem w_isnil (g : Bool) (x : AX) : run1 H (.isnil g x) e σ C = isnilC g (x.ev e) σ C := (rfl)
theorem isnil_l {g : Bool} {es : Nat} {l : List AV} (h0 : l = [] → C (.bool true) σ ∧ C (.bool false) σ) (h1 : l ≠ [] → C (.bool g) σ) : isnilC g (.list es l) σ C := by
 cases l with
 | nil => exact h0 rfl
 | cons a l => exact h1 (by simp)
@[go_sem] theorem w_mks (mu : Bool) (es b : Nat) (ty : TypeId) (z : AV) (x : AX) : run1 H (.mks mu es b ty z x) e σ C = mksC mu es b ty z (x.ev e) σ C := (rfl)
@[go_sem] theorem w_mksC_t (es b : Nat) (ty : TypeId) (z : AV) (K : IntKind) (n : Int) : mksC true es b ty z (.int K n) σ C = (0 ≤ n ∧ n ≤ 9223372036854775807 ∧ b * n.toNat ≤ 281474976710656 ∧ C (.sl σ.n σ.c es 0 n.toNat) (σ.push es ty (List.replicate n.toNat z))) := by simp [mksC]
@[go_sem] theorem w_mksC_f (es b : Nat) (ty : TypeId) (z : AV) (K : IntKind) (n : Int) : mksC false es b ty z (.int K n) σ C = (0 ≤ n ∧ n ≤ 9223372036854775807 ∧ b * n.toNat ≤ 281474976710656 ∧ C (.list es (List.replicate n.toNat z)) σ) := by simp [mksC]
@[go_sem] theorem w_mkmap : run1 H .mkmap e σ C = C (.mapo σ.n σ.c) ⟨upd σ.ob σ.n (some ⟨σ.c, 2, mapTy, false, false, []⟩), σ.n + 1, σ.c + 1⟩ := (rfl)
@[go_sem] theorem w_mapget (ok : Bool) (z : AV) (x q : AX) : run1 H (.mapget ok z x q) e σ C = mapgetC ok z (x.ev e) (q.ev e) σ C := (rfl)
@[go_sem] theorem w_mapgetC (ok : Bool) (z : AV) (id g : Nat) (kk : IntKind) (n : Int) : mapgetC ok z (.mapo id g) (.int kk n) σ C = (kOk kk = true ∧ ∃ o, σ.ob id = some o ∧ o.g = g ∧ keysOk kk o.l = true ∧ C (mgetR ok z (mget n o.l)) σ) := (rfl)
@[go_sem] theorem w_mp (q : MpOp) (x : AX) (l : List AX) : run1 H (.mp q x l) e σ C = mpC q (x.ev e) (evs e l) σ C := (rfl)
@[go_sem] theorem w_mp_get (ok : Bool) (z : AV) (id g : Nat) (a b : Int) : mpC (.get2 ok z) (.mapo id g) [.agg [.int .i64 a, .int .i64 b]] σ C = ∃ o, σ.ob id = some o ∧ o.g = g ∧ keysOk .u8 o.l = true ∧ C (mgetR ok z (mget (pr a b) o.l)) σ := (rfl)
@[go_sem] theorem w_mp_del (id g : Nat) (a b : Int) : mpC .del2 (.mapo id g) [.agg [.int .i64 a, .int .i64 b]] σ C = ∃ o, σ.ob id = some o ∧ o.g = g ∧ o.ro = false ∧ keysOk .u8 o.l = true ∧ C (.tuple []) (σ.put id o (mdel (pr a b) o.l)) := (rfl)
@[go_sem] theorem w_mp_ent (z : AV) (id g : Nat) (a b : Int) : mpC (.ent2 z) (.mapo id g) [.agg [.int .i64 a, .int .i64 b]] σ C = ∃ o, σ.ob id = some o ∧ o.g = g ∧ o.ro = false ∧ keysOk .u8 o.l = true ∧ z.one = true ∧ (∀ y, mget (pr a b) o.l = some y → y.one = true) ∧
  ∀ s : Nat, C (.tuple [(mget (pr a b) o.l).getD z, .int .i64 (s : Int)]) (σ.put id o (mins (pr a b) (.agg [.int .u16 (pr (pr a b) s), (mget (pr a b) o.l).getD z]) o.l)) := (rfl)
@[go_sem] theorem w_mp_sto (id g : Nat) (t : Int) (v : AV) : mpC .sto2 (.mapo id g) [.int .i64 t, v] σ C = (v.one = true ∧ ∃ o, σ.ob id = some o ∧ o.g = g ∧ o.ro = false ∧ ∃ n old l, o.l = mins n (.agg [.int .u16 (pr n t), old]) l ∧ keysOk .u8 l = true ∧ C .junk (σ.put id o (mset .u8 n v l))) := (rfl)
@[go_sem] theorem w_mgetR_tn (z : AV) : mgetR true z none = .tuple [z, .bool false] := (rfl)
@[go_sem] theorem w_mgetR_ts (z x : AV) : mgetR true z (some x) = .tuple [x, .bool true] := (rfl)
@[go_sem] theorem w_mgetR_fs (z x : AV) : mgetR false z (some x) = x := (rfl)
@[go_sem] theorem w_mget_nil (n : Int) : mget n [] = none := (rfl)
@[go_sem] theorem w_mget_cons (kk : IntKind) (n a : Int) (x : AV) (l : List AV) : mget n (.agg [.int kk a, x] :: l) = if n = a then some x else mget n l := (rfl)
@[go_sem] theorem w_mset_nil (kk : IntKind) (n : Int) (v : AV) : mset kk n v [] = [.agg [.int kk n, v]] := (rfl)
@[go_sem] theorem w_mset_cons (k kk : IntKind) (n a : Int) (x v : AV) (l : List AV) : mset k n v (.agg [.int kk a, x] :: l) = if n = a then .agg [.int k n, v] :: l else if n < a then .agg [.int k n, v] :: .agg [.int kk a, x] :: l else .agg [.int kk a, x] :: mset k n v l := (rfl)
@[go_sem] theorem w_keysOk_nil (kk : IntKind) : keysOk kk [] = true := (rfl)
@[go_sem] theorem w_keysOk_cons (kk : IntKind) (a : Int) (x : AV) (l : List AV) : keysOk kk (.agg [.int kk a, x] :: l) = keysOk kk l := by simp [keysOk, keyOk]
@[go_sem] theorem w_cpy (es : Nat) (x y : AX) : run1 H (.cpy es x y) e σ C = cpyC es (x.ev e) (y.ev e) σ C := (rfl)
@[go_sem] theorem w_cpy_l (es id g off n : Nat) (l : List AV) : cpyC es (.sl id g es off n) (.list es l) σ C = ∃ o, σ.ob id = some o ∧ o.g = g ∧ o.es = es ∧ o.ro = false ∧ off + n ≤ o.l.length ∧
     C (.int .i64 (min l.length n : Nat)) (σ.put id o (o.l.take off ++ l.take n ++ o.l.drop (off + min l.length n))) := by
 simp [cpyC, cpyK, elemsK]
@[go_sem] theorem w_cpy_kl (es id g off n c : Nat) (l : List AV) : cpyC es (.slk id g es off n c) (.list es l) σ C = (0 < min l.length n ∧ ∃ o, σ.ob id = some o ∧ o.g = g ∧ o.es = es ∧ o.ro = false ∧ off ≤ o.l.length ∧
     C (.int .i64 (min l.length n : Nat)) (σ.put id o (o.l.take off ++ l.take n ++ o.l.drop (off + min l.length n)))) := by simp [cpyC, cpyK, elemsK]
theorem cpy_kk {es id g off n c id2 g2 off2 n2 c2 : Nat} (h : 0 < min n2 n ∧ ∃ o2, σ.ob id2 = some o2 ∧ o2.g = g2 ∧ o2.es = es ∧ off2 + min n2 n ≤ o2.l.length ∧
   ∃ o, σ.ob id = some o ∧ o.g = g ∧ o.es = es ∧ o.ro = false ∧ off ≤ o.l.length ∧ C (.int .i64 (min n2 n : Nat)) (σ.put id o (o.l.take off ++ (o2.l.drop off2).take (min n2 n) ++ o.l.drop (off + min n2 n)))) :
  cpyC es (.slk id g es off n c) (.slk id2 g2 es off2 n2 c2) σ C := .inl ⟨rfl, rfl, h⟩
theorem cpy_sk {es id g off n id2 g2 off2 n2 c2 : Nat} (h : ∃ o2, σ.ob id2 = some o2 ∧ o2.g = g2 ∧ o2.es = es ∧ off2 + n2 ≤ o2.l.length ∧ ∃ o, σ.ob id = some o ∧ o.g = g ∧ o.es = es ∧ o.ro = false ∧ off + n ≤ o.l.length ∧
     C (.int .i64 (min ((o2.l.drop off2).take n2).length n : Nat)) (σ.put id o (o.l.take off ++ ((o2.l.drop off2).take n2).take n ++ o.l.drop (off + min ((o2.l.drop off2).take n2).length n)))) :
  cpyC es (.sl id g es off n) (.slk id2 g2 es off2 n2 c2) σ C := by
 obtain ⟨o2, a1, a2, a3, a4, h⟩ := h
 refine .inr ⟨?_, ?_, o2, a1, a2, a3, a4, rfl, h⟩
 ·intro _ _ h; cases h
 ·intro _ _ _ _ _ h; rcases h with h | ⟨_, h⟩ <;> cases h; rfl
@[go_sem] theorem w_clr (es : Nat) (z : AV) (x : AX) : run1 H (.clr es z x) e σ C = clrC es z (x.ev e) σ C := (rfl)
@[go_sem] theorem w_clr_s (es id g off n : Nat) (z : AV) : clrC es z (.sl id g es off n) σ C = ∃ o, σ.ob id = some o ∧ o.g = g ∧ o.es = es ∧ o.ro = false ∧ off + n ≤ o.l.length ∧
   C (.tuple []) (σ.put id o (o.l.take off ++ List.replicate n z ++ o.l.drop (off + n))) := by simp [clrC]
@[go_sem] theorem w_b2s (x : AX) : run1 H (.b2s x) e σ C = b2sC (x.ev e) σ C := (rfl)
@[go_sem] theorem w_b2s_l (l : List AV) : b2sC (.list 1 l) σ C = ∃ s, bytesL l = some s ∧ C (.str ⟨s.toArray⟩) σ := by simp [b2sC, elemsK]
@[go_sem] theorem w_b2s_s (id g off n : Nat) : b2sC (.sl id g 1 off n) σ C = ∃ o, σ.ob id = some o ∧ o.g = g ∧ o.es = 1 ∧ off + n ≤ o.l.length ∧ ∃ s, bytesL ((o.l.drop off).take n) = some s ∧ C (.str ⟨s.toArray⟩) σ := by
 simp only [b2sC, elemsK, eq_iff_iff]
 refine ⟨fun h => h.2.2, fun h => ⟨?_, ?_, h⟩⟩
 ·intro _ _ h; cases h
 ·intro _ _ _ _ _ h; rcases h with h | ⟨_, h⟩ <;> cases h; rfl
@[go_sem] theorem w_appz (es b : Nat) (ty : TypeId) (z : AV) (x y : AX) : run1 H (.appz es b ty z x y) e σ C = appzC es b ty z (x.ev e) (y.ev e) σ C := (rfl)
theorem appz_k {es b : Nat} {ty : TypeId} {z : AV} {id g off n0 c : Nat} {K : IntKind} {n : Int} (h : 0 < n ∧ c - off < n0 + n.toNat ∧ n0 + n.toNat ≤ 9223372036854775807 ∧ (n0 + n.toNat) * b ≤ 140737488355328 ∧
   ∃ o, σ.ob id = some o ∧ o.g = g ∧ o.es = es ∧ off + n0 ≤ o.l.length ∧ C (.sl σ.n σ.c es 0 (n0 + n.toNat)) (σ.push es ty ((o.l.drop off).take n0 ++ List.replicate n.toNat z))) :
  appzC es b ty z (.slk id g es off n0 c) (.int K n) σ C := ⟨rfl, h⟩
@[go_sem] theorem w_str_inj (s t : ByteArray) : (AV.str s = AV.str t) = (s = t) := by simp
@[go_sem] theorem w_newsl (es : Nat) (ty : TypeId) : run1 H (.newsl es ty) e σ C = C (.sl σ.n σ.c es 0 0) (σ.push es ty []) := (rfl)
@[go_sem] theorem w_call (f : Nat) (l : List AX) : run1 H (.call f l) e σ C = H f (evs e l) σ C := (rfl)
@[go_sem] theorem w_callv (x : AX) (l : List AX) : run1 H (.callv x l) e σ C = callvC H (x.ev e) (evs e l) σ C := (rfl)
@[go_sem] theorem w_callvC (f : Nat) (caps args : List AV) : callvC H (.func f caps) args σ C = H f (args ++ caps) σ C := (rfl)
theorem mxL : maxLen = 9223372036854775807 := by simp [maxLen]
theorem w_ite_ne {α : Type} {i j : Nat} {a b : α} (h : ¬ i = j) : (if i = j then a else b) = b := if_neg h
theorem w_ite_lt {α : Type} {i j : Nat} {a b : α} (h : i < j) : (if i < j then a else b) = a := if_pos h
@[go_sem] theorem w_empty : St.empty = ⟨fun _ => none, 0, 0⟩ := (rfl)
@[go_sem] theorem w_push (ob : Nat → Option AObj) (n c es : Nat) (ty : TypeId) (l : List AV) : (St.mk ob n c).push es ty l = ⟨upd ob n (some ⟨c, es, ty, false, true, l⟩), n + 1, c + 1⟩ := (rfl)
@[go_sem] theorem w_put (ob : Nat → Option AObj) (n c id : Nat) (g es : Nat) (ty : TypeId) (ro ap : Bool) (l0 l : List AV) : (St.mk ob n c).put id ⟨g, es, ty, ro, ap, l0⟩ l = ⟨upd ob id (some ⟨g, es, ty, ro, ap, l⟩), n, c⟩ := (rfl)
@[go_sem] theorem w_renew (ob : Nat → Option AObj) (n c id : Nat) (g es : Nat) (ty : TypeId) (ro ap : Bool) (l0 l : List AV) : (St.mk ob n c).renew id ⟨g, es, ty, ro, ap, l0⟩ l = ⟨upd ob id (some ⟨c, es, ty, ro, ap, l⟩), n, c + 1⟩ := (rfl)
@[go_sem] theorem w_trunc (ob : Nat → Option AObj) (n c k : Nat) : (St.mk ob n c).trunc k = ⟨fun i => if i < k then ob i else none, k, c⟩ := (rfl)
@[go_sem] theorem w_sub_t (sz off : Nat) (y : AV) : sub true sz off y = .agg ((y.cells.drop off).take sz) := (rfl)
@[go_sem] theorem w_sub_f (sz off : Nat) (y : AV) : sub false sz off y = y.cells.getD off .junk := (rfl)
@[go_sem] theorem w_setc_agg (off : Nat) (v : AV) (cs : List AV) : setc off v (.agg cs) = .agg (cs.take off ++ v.cells ++ cs.drop (off + v.cells.length)) := (rfl)
@[go_sem] theorem w_setc_int (off : Nat) (v : AV) (K : IntKind) (n : Int) : setc off v (.int K n) = v := (rfl)
@[go_sem] theorem w_setc_bool (off : Nat) (v : AV) (b : Bool) : setc off v (.bool b) = v := (rfl)
@[go_sem] theorem w_fill_nil (cs : List AV) : fillA cs [] = cs := (rfl)
@[go_sem] theorem w_fill_cons (cs : List AV) (off : Nat) (v : AV) (r : List (Nat × AV)) : fillA cs ((off, v) :: r) = fillA (cs.take off ++ v.cells ++ cs.drop (off + v.cells.length)) r := (rfl)
@[go_sem] theorem w_cells_agg (cs : List AV) : AV.cells (.agg cs) = cs := (rfl)
@[go_sem] theorem w_cells_int (K : IntKind) (n : Int) : AV.cells (.int K n) = [.int K n] := (rfl)
@[go_sem] theorem w_cells_bool (b : Bool) : AV.cells (.bool b) = [.bool b] := (rfl)
@[go_sem] theorem w_cells_nil : AV.cells .nil = [.nil] := (rfl)
@[go_sem] theorem w_cells_list (es : Nat) (l : List AV) : AV.cells (.list es l) = [.list es l] := (rfl)
@[go_sem] theorem w_cells_sl (id g es o n : Nat) : AV.cells (.sl id g es o n) = [.sl id g es o n] := (rfl)
@[go_sem] theorem w_oid_slk (id g es o n c : Nat) : AV.oid (.slk id g es o n c) = [id] := (rfl)
@[go_sem] theorem w_cells_ptr (id g es o n : Nat) : AV.cells (.ptr id g es o n) = [.ptr id g es o n] := (rfl)
@[go_sem] theorem w_flat_agg (cs : List AV) : AV.flat (.agg cs) = cs.all AV.one := (rfl)
@[go_sem] theorem w_flat_int (K : IntKind) (n : Int) : AV.flat (.int K n) = true := (rfl)
@[go_sem] theorem w_flat_bool (b : Bool) : AV.flat (.bool b) = true := (rfl)
@[go_sem] theorem w_flat_nil : AV.flat .nil = true := (rfl)
@[go_sem] theorem w_flat_list (es : Nat) (l : List AV) : AV.flat (.list es l) = true := (rfl)
@[go_sem] theorem w_flat_sl (id g es o n : Nat) : AV.flat (.sl id g es o n) = true := (rfl)
@[go_sem] theorem w_flat_ptr (id g es o n : Nat) : AV.flat (.ptr id g es o n) = true := (rfl)
@[go_sem] theorem w_flat_mapo (id g : Nat) : AV.flat (.mapo id g) = true := (rfl)
@[go_sem] theorem w_cells_mapo (id g : Nat) : AV.cells (.mapo id g) = [.mapo id g] := (rfl)
@[go_sem] theorem w_one_int (K : IntKind) (n : Int) : AV.one (.int K n) = true := (rfl)
@[go_sem] theorem w_one_bool (b : Bool) : AV.one (.bool b) = true := (rfl)
@[go_sem] theorem w_one_nil : AV.one .nil = true := (rfl)
@[go_sem] theorem w_one_list (es : Nat) (l : List AV) : AV.one (.list es l) = true := (rfl)
@[go_sem] theorem w_one_sl (id g es o n : Nat) : AV.one (.sl id g es o n) = true := (rfl)
@[go_sem] theorem w_pur_agg (cs : List AV) : AV.pur (.agg cs) = cs.all AV.pur1 := (rfl)
@[go_sem] theorem w_pur_func (f : Nat) (cs : List AV) : AV.pur (.func f cs) = cs.all AV.pur1 := (rfl)
@[go_sem] theorem w_pur_int (K : IntKind) (n : Int) : AV.pur (.int K n) = true := (rfl)
@[go_sem] theorem w_pur_bool (b : Bool) : AV.pur (.bool b) = true := (rfl)
@[go_sem] theorem w_pur_str (s : ByteArray) : AV.pur (.str s) = true := (rfl)
@[go_sem] theorem w_pur_list (es : Nat) (l : List AV) : AV.pur (.list es l) = true := (rfl)
@[go_sem] theorem w_pur1_int (K : IntKind) (n : Int) : AV.pur1 (.int K n) = true := (rfl)
@[go_sem] theorem w_pur1_bool (b : Bool) : AV.pur1 (.bool b) = true := (rfl)
@[go_sem] theorem w_pur1_nil : AV.pur1 .nil = true := (rfl)
@[go_sem] theorem w_pur1_list (es : Nat) (l : List AV) : AV.pur1 (.list es l) = true := (rfl)
attribute [go_sem] Nat.zero_add eq_self Int.toNat_zero Int.toNat_one Nat.add_zero Int.toNat_natCast List.getElem?_map Option.map_some List.length_map Int.cast_ofNat_Int decide_true decide_false or_true true_or List.getElem?_cons_zero List.getElem?_cons_succ List.length_cons List.length_nil List.all_cons List.all_nil List.take_succ_cons List.take_zero List.drop_succ_cons List.drop_zero List.take_nil List.drop_nil
 List.cons_append List.nil_append List.append_nil List.getD_cons_zero List.getD_cons_succ List.map_cons List.map_nil List.set_cons_zero List.set_cons_succ
 List.mem_cons List.not_mem_nil forall_eq_or_imp forall_eq Option.some.injEq exists_eq_left' exists_eq_left exists_eq_right exists_eq_right' true_and and_true false_and and_false and_self
 Bool.and_true Bool.true_and Bool.and_self Bool.not_true Bool.not_false true_implies false_implies implies_true IntKind.ctorIdx or_false false_or forall_const if_true if_false not_true_eq_false not_false_eq_true ne_eq
theorem wrap_id {n : Int} (h1 : -9223372036854775808 ≤ n) (h2 : n ≤ 9223372036854775807) : IntKind.i64.wrap n = n := IntWalk.i64_in n ⟨h1, h2⟩
theorem Pub.of_sl {id g es n : Nat} {ty : TypeId} {ro ap : Bool} {l : List AV} (h : σ.ob id = some ⟨g, es, ty, ro, ap, l⟩) (hn : n = l.length) (hp : ∀ x ∈ l, x.pur = true) (hk : ∀ x ∈ l, okE es x) : Pub σ (.sl id g es 0 n) (.list es l) := by
 subst hn
 refine .sl h rfl rfl (by simp) (by simp) (fun i x y hx hy => ?_) hk
 simp only [List.drop_zero, List.take_length] at hx
 rw [hx] at hy; obtain rfl := Option.some.inj hy
 exact .pure (hp x (List.mem_of_getElem? hx))
theorem Pub.of_eq {a b : AV} (h : a = b) (hp : b.pur = true) : Pub σ a b := by subst h; exact .pure hp
theorem Pub.pair {a b a' b' : AV} (h1 : Pub σ a a') (h2 : Pub σ b b') : Pub σ (.tuple [a, b]) (.tuple [a', b']) := by
 refine .tuple rfl fun i x y hx hy => ?_
 match i with
 | 0 => simp at hx hy; subst hx; subst hy; exact h1
 | 1 => simp at hx hy; subst hx; subst hy; exact h2
 | i + 2 => simp at hx
theorem Pub.three {a b c a' b' c' : AV} (h1 : Pub σ a a') (h2 : Pub σ b b') (h3 : Pub σ c c') : Pub σ (.tuple [a, b, c]) (.tuple [a', b', c']) := by
 refine .tuple rfl fun i x y hx hy => ?_
 match i with
 | 0 => simp at hx hy; subst hx; subst hy; exact h1
 | 1 => simp at hx hy; subst hx; subst hy; exact h2
 | 2 => simp at hx hy; subst hx; subst hy; exact h3
 | i + 3 => simp at hx
theorem call_pc {f : Nat} {args : List AV} {r : AV} {K : AV → St → Prop} (h : PC P f args r) (ha : ∀ a ∈ args, a.pur = true) (hK : K r σ) : HC P f args σ K :=
 (HC_of_PC h ha).mono fun _ _ ⟨h1, h2⟩ => by rw [h1, h2]; exact hK
theorem PC.walk {f : Nat} {args : List AV} {vs : List Value} {w : World} (h : PC P f args (.bool true)) (hv : VPs (fun b => b < w.heap.size) w args vs) :
  Calls P f vs.toArray w fun e w' => e = .returned (.bool true) ∧ RowKit.Below w.heap.size w w' := by
 refine (h.2 (fun b => b < w.heap.size) w vs (fun _ h => h) hv).mono fun e w' hx => ?_
 obtain ⟨v, S', rfl, hb, _, _, hV⟩ := hx
 cases hV
 exact ⟨rfl, hb⟩
theorem VPs.nil {S : Nat → Prop} {w : World} : VPs S w [] [] := ⟨rfl, fun j y u h => by simp at h⟩
theorem VPs.cons {S : Nat → Prop} {w : World} {a : AV} {v : Value} {as : List AV} {vs : List Value} (h : VP S w a v) (k : VPs S w as vs) : VPs S w (a :: as) (v :: vs) := by
 refine ⟨by simp [k.1], fun j y u hy hu => ?_⟩
 cases j with
 | zero => simp at hy hu; subst hy; subst hu; exact h
 | succ j => exact k.2 j y u (by simpa using hy) (by simpa using hu)
theorem call_hc {f : Nat} {args : List AV} {v : AV} {τ : St} {K : AV → St → Prop} (h : HC P f args σ (fun r σ' => r = v ∧ σ' = τ)) (hK : K v τ) : HC P f args σ K :=
 h.mono fun _ _ ⟨h1, h2⟩ => by rw [h1, h2]; exact hK
inductive Lent (σ : St) : List AV → List AV → Prop
 | nil : Lent σ [] []
 | cons {a a' : AV} {l l' : List AV} (h : Pub σ a a') (k : Lent σ l l') : Lent σ (a :: l) (a' :: l')
theorem Lent.get {l l' : List AV} (h : Lent σ l l') : l.length = l'.length ∧ ∀ (i : Nat) (x y : AV), l[i]? = some x → l'[i]? = some y → Pub σ x y := by
 induction h with
 | nil => exact ⟨rfl, fun i x y h => by simp at h⟩
 | cons h _ ih =>
  refine ⟨by simp [ih.1], fun i x y hx hy => ?_⟩
  cases i with
  | zero => simp at hx hy; subst hx; subst hy; exact h
  | succ i => exact ih.2 i x y (by simpa using hx) (by simpa using hy)
theorem call_lent {f : Nat} {args args' : List AV} {r : AV} {K : AV → St → Prop} (h : PC P f args' r) (hp : Lent σ args args') (hs : r.scal = true) (hK : K r σ) : HC P f args σ K :=
 (HC_of_PC_lent h hp.get hs).mono fun _ _ ⟨h1, h2⟩ => by rw [h1, h2]; exact hK
end
end Go.Ab
