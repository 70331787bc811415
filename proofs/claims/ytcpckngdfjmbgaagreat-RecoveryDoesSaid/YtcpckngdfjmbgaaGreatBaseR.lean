/- OWN WORK, put together by tools/asm.py, seat.py, mini.py. -/
import Derived.Test.YtcpckngdfjmbgaaGreatBaseK
import Derived.Laws.OwnMore
import Derived.Laws.BytesArg
import Derived.Lib.ConvBytes
import Derived.Lib.AppendZerosOnto
namespace Go.Ab
open Go.RowKit
section
variable {P : Program} {W : World} {O S0 : Nat → Prop} {m : Mp} {S : Nat → Prop} {σ : St} {w : World} {e : Nat → AV} {a : Act} {o : Oper} {K : AV → St → Prop} {Q : Exit → Act → World → Prop} {g0 : Nat}
theorem Rl {op:BinOp} {t t':TypeId} {x y:Operand} {x' y':AX} (hI:Inv W O S0 m S σ w) (hE:bq m S w e a.tmps) (ho:o.op=.binOp op t x y t') (h1:ax x=some x') (h2:ax y=some y')
  (h:ar (HC P) (.pu (.bit op) [x',y']) e σ K):o.wp P a w (Good W O S0 m S w g0 o a K) Q:=by
 have hx:=aC hE h1
 have hy:=aC hE h2
 obtain ⟨v,h,hK⟩:=h
 simp only [qp,List.map_cons,List.map_nil] at h
 generalize g0_:x'.ev e=G0_ at h
 generalize g1_:y'.ev e=G1_ at h
 unfold Jd at h
 split at h <;> (try (first | (cases h; done) | (rename_i hp hl; cases hp; done)))
 ·rename_i hp hl; cases hp; cases hl
  rename_i k p k' q
  rw [g0_] at hx; rw [g1_] at hy
  have hx:=hx.of_int
  have hy:=hy.of_int
  have hg:∀ op,(eqGuard op t x y (.int k p) (.int k' q)).run P w=.ok () w:=fun op=>by
   unfold eqGuard; cases op <;> rfl
  unfold BQ at h
  split at h
  ·split at h
   ·rename_i hk; subst hk; cases h
    exact aj hI (by simp [execOp,ho,hx,hy,hg,binOp,Op.intBits]) hK (.pure (.int _ _))
   ·cases h
  ·split at h
   ·rename_i hk; subst hk; cases h
    exact aj hI (by simp [execOp,ho,hx,hy,hg,binOp,Op.intBits]) hK (.pure (.int _ _))
   ·cases h
  ·split at h
   ·rename_i hq; cases h
    have hq':¬q<0:=by omega
    exact aj hI (by simp [execOp,ho,hx,hy,hg,binOp,Op.shift,hq']) hK (.pure (.int _ _))
   ·cases h
  ·split at h
   ·rename_i hq; cases h
    have hq':¬q<0:=by omega
    exact aj hI (by simp [execOp,ho,hx,hy,hg,binOp,Op.shift,hq']) hK (.pure (.int _ _))
   ·cases h
  ·cases h
theorem Ol {t:TypeId} {x y:Operand} {x' y':AX} (hI:Inv W O S0 m S σ w) (hE:bq m S w e a.tmps) (ho:o.op=.index t x y) (hu:P.underlying t=some .string) (h1:ax x=some x') (h2:ax y=some y')
  (h:ar (HC P) (.pu .EM [x',y']) e σ K):o.wp P a w (Good W O S0 m S w g0 o a K) Q:=by
 have hx:=aC hE h1
 have hy:=aC hE h2
 obtain ⟨v,h,hK⟩:=h
 simp only [qp,List.map_cons,List.map_nil] at h
 generalize g0_:x'.ev e=G0_ at h
 generalize g1_:y'.ev e=G1_ at h
 unfold Jd at h
 split at h <;> (try (first | (cases h; done) | (rename_i hp hl; cases hp; done)))
 ·rename_i hp hl; cases hp; cases hl
  rename_i s k i
  rw [g0_] at hx; rw [g1_] at hy
  have hx:=hx.mH
  have hy:=hy.of_int
  split at h
  ·rename_i hi
   obtain ⟨b,hb,rfl⟩:=Option.map_eq_some_iff.1 h
   exact aj hI (by simp [execOp,ho,hx,hy,Instr.index,asIntOf,run_underlying hu,hi,hb]) hK (.pure (.int _ _))
  ·cases h
theorem ET {ty:TypeId} {d:TypeDesc} {i:TypeInfo} (hd:P.underlying ty=some d) (hi:P.info? ty=some i) {cs:List AV} {vs:Array Value} (hv:bR m S w cs vs.toList) {off:Nat} (hs:off+(if bK d then i.size else 1)≤cs.length) :
  ∃ u,(part ty vs off).run P w=.ok u w∧VR m S w (sub (bK d) (if bK d then i.size else 1) off (.agg cs)) u:=by
 have hl:vs.size=cs.length:=by simpa using hv.1
 cases hag:bK d with
 | true=>
  simp only [hag,if_true] at hs
  refine ⟨.agg (vs.extract off (off+i.size)),by simp [part,fw hd,hag,aP hi],VR.Af ?_⟩
  have h1:=(hv.drop off).take i.size
  rw [Array.toList_extract]
  simpa [AV.cells,List.extract] using h1
 | false=>
  simp only [hag,Bool.false_eq_true,if_false] at hs
  have hlt:off<vs.size:=by omega
  refine ⟨vs[off],by simp [part,fw hd,hag,hlt],?_⟩
  have hlt':off<cs.length:=by omega
  simp only [sub,Bool.false_eq_true,if_false,AV.cells,List.getD_eq_getElem?_getD,List.getElem?_eq_getElem hlt',Option.getD_some]
  exact hv.2 off _ _ (List.getElem?_eq_getElem hlt') (by simp [hlt])
theorem Rf {t:TypeId} {x:Operand} {y:AX} {fields:Array Field} {n:Nat} {f:Field} {d:TypeDesc} {i:TypeInfo} (hI:Inv W O S0 m S σ w) (hE:bq m S w e a.tmps) (ho:o.op=.field t x n)
  (hu:P.underlying t=some (.struct fields)) (hf:fields[n]?=some f) (hd:P.underlying f.type=some d) (hi:P.info? f.type=some i) (hc:ax x=some y)
  (h:ar (HC P) (.pu (.vP (bK d) (if bK d then i.size else 1) f.offset) [y]) e σ K):o.wp P a w (Good W O S0 m S w g0 o a K) Q:=by
 have hx:=aC hE hc
 obtain ⟨v,h,hK⟩:=h
 simp only [qp,List.map_cons,List.map_nil] at h
 generalize g0_:y.ev e=G0_ at h
 unfold Jd at h
 split at h <;> (try (first | (cases h; done) | (rename_i hp hl; cases hp; done)))
 ·rename_i hp hl; cases hp; cases hl
  rename_i cs
  rw [g0_] at hx
  obtain ⟨vs,e1,hvs⟩:=hx.ov
  by_cases hs:f.offset+(if bK d then i.size else 1)≤cs.length
  ·rw [if_pos hs] at h
   cases h
   obtain ⟨u,hr,hv⟩:=ET hd hi hvs hs
   exact aj (v:=u) hI (by simp [execOp,ho,e1,Instr.field,run_underlying hu,hf,asAgg,hr]) hK hv
  ·rw [if_neg hs] at h
   cases h
theorem Ox {t el:TypeId} {n:Nat} {x ix:Operand} {y z:AX} {d:TypeDesc} {i:TypeInfo} (hI:Inv W O S0 m S σ w) (hE:bq m S w e a.tmps) (ho:o.op=.index t x ix)
  (hu:P.underlying t=some (.array n el)) (hd:P.underlying el=some d) (hi:P.info? el=some i) (hp0:0<i.size) (hc:ax x=some y) (hz:ax ix=some z)
  (h:ar (HC P) (.pu (.Iw (bK d) i.size n) [y,z]) e σ K):o.wp P a w (Good W O S0 m S w g0 o a K) Q:=by
 have hx:=aC hE hc
 have hy:=aC hE hz
 obtain ⟨v,h,hK⟩:=h
 simp only [qp,List.map_cons,List.map_nil] at h
 generalize g0_:y.ev e=G0_ at h
 generalize g1_:z.ev e=G1_ at h
 unfold Jd at h
 split at h <;> (try (first | (cases h; done) | (rename_i hp hl; cases hp; done)))
 ·rename_i hp hl; cases hp; cases hl
  rename_i cs k q
  rw [g0_] at hx; rw [g1_] at hy
  obtain ⟨vs,e1,hvs⟩:=hx.ov
  have hy:=hy.of_int
  split at h
  ·rename_i hs
   cases h
   obtain ⟨s1,s2,s3⟩:=hs
   rw [Nat.add_mul] at s3
   obtain ⟨u,hr,hv⟩:=ET (off:=q.toNat * i.size) hd hi hvs (by split <;> omega)
   have hv':VR m S w (sub (bK d) i.size (q.toNat * i.size) (.agg cs)) u:=by
    cases hag:bK d with
    | true=>simpa [hag] using hv
    | false=>simpa [hag,sub] using hv
   have hq:0≤q∧q<(n:Int):=⟨s1,s2⟩
   exact aj (v:=u) hI (by simp [execOp,ho,e1,hy,Instr.index,asIntOf,run_underlying hu,hq,aP hi,hr]) hK hv'
  ·cases h
theorem Ow {t el:TypeId} {n:Nat} {x ix:Operand} {y z:AX} {i:TypeInfo} (hI:Inv W O S0 m S σ w) (hE:bq m S w e a.tmps) (ho:o.op=.indexAddr t x ix)
  (hu:P.underlying t=some (.array n el)) (hi:P.info? el=some i) (hc:ax x=some y) (hz:ax ix=some z)
  (h:ar (HC P) (.pu (.Mj i.size n) [y,z]) e σ K):o.wp P a w (Good W O S0 m S w g0 o a K) Q:=by
 have hx:=aC hE hc
 have hy:=aC hE hz
 obtain ⟨v,h,hK⟩:=h
 simp only [qp,List.map_cons,List.map_nil] at h
 generalize g0_:y.ev e=G0_ at h
 generalize g1_:z.ev e=G1_ at h
 unfold Jd at h
 split at h <;> (try (first | (cases h; done) | (rename_i hp hl; cases hp; done)))
 ·rename_i hp hl; cases hp; cases hl
  rename_i id g es' ii oo k q
  rw [g0_] at hx; rw [g1_] at hy
  obtain ⟨b,len,cap,hm,e1⟩:=hx.wo
  have hy:=hy.of_int
  split at h
  ·rename_i hq
   cases h
   refine aj (v:=.pointer (some ⟨b,ii * es'+(oo+q.toNat * i.size),none⟩)) hI ?_ hK (VR.ptr hm)
   simp [execOp,ho,e1,hy,Instr.indexAt,asIntOf,run_underlying hu,hq,aP hi,Instr.sureAddr,Addr.add_lit,Nat.add_assoc]
  ·cases h
 ·rename_i hp hl; cases hp; cases hl
  rename_i es' l ii oo k q
  rw [g0_] at hx; rw [g1_] at hy
  obtain ⟨b,r,e1,hh⟩:=hx.Ds
  have hy:=hy.of_int
  split at h
  ·rename_i hq
   cases h
   refine aj (v:=.pointer (some ⟨b,r+(oo+q.toNat * i.size),none⟩)) hI ?_ hK (hh _)
   simp [execOp,ho,e1,hy,Instr.indexAt,asIntOf,run_underlying hu,hq,aP hi,Instr.sureAddr,Addr.add_lit,Nat.add_assoc]
  ·cases h
theorem Q9 {t:TypeId} {x:Operand} {y:AX} {d:TypeDesc} (hI:Inv W O S0 m S σ w) (ho:o.op=.makeInterface t x) (hu:P.underlying t=some d) (hd:isIface d=false)
  (h:ar (HC P) (.pu .TE [y]) e σ K):o.wp P a w (Good W O S0 m S w g0 o a K) Q:=by
 obtain ⟨v,h,hK⟩:=h
 simp only [qp,List.map_cons,List.map_nil,Jd,Option.some.injEq] at h
 subst h
 refine aj (v:=.iface t (a.eval x)) hI ?_ hK (.bC _)
 simp only [execOp,ho,Instr.makeInterface,Sem.run_bind,run_underlying hu,Result.andThen_ok]
 cases d <;> simp_all [isIface]
theorem Hd {xs:List AX} (h:ar (HC P) (.pu .never xs) e σ K):o.wp P a w (Good W O S0 m S w g0 o a K) Q:=by
 obtain ⟨v,h,_⟩:=h
 simp [Jd] at h
theorem Oq {t el:TypeId} {x:Operand} {y:AX} (hI:Inv W O S0 m S σ w) (hE:bq m S w e a.tmps) {c:Call} (ho:o.op=.call c) (hcc:c.callee=.builtin .cap) (hca:c.args.toList=[x]) (hct:c.argTypes.toList=[t])
  (hu:P.underlying t=some (.slice el)) (h1:ax x=some y) (h:ar (HC P) (.pu .D8 [y]) e σ K):o.wp P a w (Good W O S0 m S w g0 o a K) Q:=by
 have hx:=aC hE h1
 obtain ⟨cal,args,tys⟩:=c
 simp only at hcc hca hct
 obtain rfl:args=#[x]:=by cases args; simp_all
 obtain rfl:tys=#[t]:=by cases tys; simp_all
 subst hcc
 obtain ⟨v,h,hK⟩:=h
 simp only [qp,List.map_cons,List.map_nil] at h
 generalize g0_:y.ev e=G0_ at h
 unfold Jd at h
 split at h <;> (try (first | (cases h; done) | (rename_i hp hl; cases hp; done)))
 ·rename_i hp hl; cases hp; cases hl
  cases h
  rw [g0_] at hx
  have hx:=hx.of_nil
  exact aj (v:=goInt 0) hI (by simp [execOp,ho,resolve,invoke,builtin,Builtin.cap_,run_underlying hu,hx]) hK (.pure (.int _ _))
 ·rename_i hp hl; cases hp; cases hl
  cases h
  rw [g0_] at hx
  obtain ⟨b,len,_,e3,_⟩:=hx.fq
  exact aj (v:=goInt _) hI (by simp [execOp,ho,resolve,invoke,builtin,Builtin.cap_,run_underlying hu,e3]) hK (.pure (.int _ _))
theorem Rh {s t:TypeId} {x:Operand} {y:AX} (hI:Inv W O S0 m S σ w) (hE:bq m S w e a.tmps) (ho:o.op=.convert s t x) (hs:P.underlying s=some .string) (ht:P.underlying t=some .string)
  (hc:ax x=some y) (h:ar (HC P) (.O2 y) e σ K):o.wp P a w (Good W O S0 m S w g0 o a K) Q:=by
 have hx:=aC hE hc
 obtain ⟨str,he,hK⟩:=h
 rw [he] at hx
 have hx:=hx.mH
 exact aj (v:=.string str) hI (by simp [execOp,ho,hx,convert,run_underlying hs,run_underlying ht]) hK (.pure (.str _))
theorem He {neg:Bool} {t t' el:TypeId} {x:Operand} {y:AX} (hI:Inv W O S0 m S σ w) (hE:bq m S w e a.tmps) (ho:o.op=.binOp (if neg then .neq else .eql) t x (.const (.slice none 0 0)) t')
  (hu:P.underlying t=some (.slice el)) (h1:ax x=some y) (h:ar (HC P) (.kW neg y) e σ K):o.wp P a w (Good W O S0 m S w g0 o a K) Q:=by
 have hx:=aC hE h1
 have key:∀ {ad:Option Addr} {n c:Nat},a.eval x=.slice ad n c→(execOp a.eval o).run P w=.ok (.value (.bool (if neg then !ad.isNone else ad.isNone))) w:=by
  intro ad n c hv
  have he:(Op.equal t (.slice ad n c) (.slice none 0 0)).run P w=.ok ad.isNone w:=by
   unfold Op.equal Op.maxDepth Op.equalIn
   cases ad <;> simp [run_underlying hu]
  have hg:∀ op,(eqGuard op t x (.const (.slice none 0 0)) (.slice ad n c) (.slice none 0 0)).run P w=.ok () w:=fun op=>by
   unfold eqGuard; cases op <;> rfl
  have hcn:a.eval (.const (.slice none 0 0))=.slice none 0 0:=rfl
  cases neg with
  | true=>simp [execOp,ho,hv,hcn,hg,binOp,he]
  | false=>simp [execOp,ho,hv,hcn,hg,binOp,he]
 have fin:∀ {ad:Option Addr} {n c:Nat},a.eval x=.slice ad n c→K (.bool (if neg then !ad.isNone else ad.isNone)) σ→o.wp P a w (Good W O S0 m S w g0 o a K) Q:=fun hv hK=>
  aj hI (key hv) hK (.pure (.bool _))
 have bth:∀ {ad:Option Addr} {n c:Nat},a.eval x=.slice ad n c→K (.bool true) σ∧K (.bool false) σ→o.wp P a w (Good W O S0 m S w g0 o a K) Q:=fun {ad n c} hv hK=>by
  refine fin hv ?_
  cases (if neg then !ad.isNone else ad.isNone)
  ·exact hK.2
  ·exact hK.1
 simp only [ar] at h
 generalize g0_:y.ev e=G0_ at h
 unfold Ao at h
 split at h
 ·rw [g0_] at hx
  exact fin hx.of_nil (by cases neg <;> simpa using h)
 ·rw [g0_] at hx
  obtain ⟨ad,cap,e3,_⟩:=hx.iK
  exact bth e3 h
 ·rw [g0_] at hx
  obtain ⟨ad,cap,e3,_,hh⟩:=hx.iK
  obtain ⟨b,q,rfl,_⟩:=hh (by simp)
  exact fin e3 (by cases neg <;> simpa using h)
 ·rename_i id g es off n
  rw [g0_] at hx
  obtain ⟨u,hm,e3,hcap⟩:=hx.dv
  by_cases hn:n=0
  ·obtain ⟨ad,cap,e4⟩:=nI (es:=es) hcap
   rw [e4] at e3
   exact bth e3 (h.1 hn)
  ·unfold bN at hcap
   split at hcap
   ·simp only [bZ] at e3
    exact fin e3 (by cases neg <;> simpa using h.2 (by omega))
   ·omega
 ·exact h.elim
theorem iM {es:Nat} {z:AV} {zv:Value} (hz:bR m S w z.cells zv.cells.toList) (hzl:z.cells.length=es) (hp:0<es) (hzf:z.flat=true) (n:Nat):bR m S w (aK (List.replicate n z)) (madeCells zv.cells (n * es)).toList:=by
 have hok:mE es (List.replicate n z):=fun x hx=>by rw [List.eq_of_mem_replicate hx]; exact ⟨hzf,hzl⟩
 have hzs:zv.cells.size=es:=by have:=hz.1; simp at this; omega
 have hfl:=bp hok
 rw [List.length_replicate] at hfl
 refine ⟨by simp [size_madeCells,hfl],fun j y u hy hu=>?_⟩
 have hj:j<n * es:=by rw [←hfl]; exact (List.getElem?_eq_some_iff.1 hy).1
 have hd:j / es<n:=Nat.div_lt_of_lt_mul (by rw [Nat.mul_comm]; exact hj)
 have hmm:=Nat.mod_lt j hp
 have hdm:j / es * es+j % es=j:=by rw [Nat.mul_comm]; exact Nat.div_add_mod j es
 have hc:=iy hok (i:=j / es) (x:=z) (by simp [hd]) hmm
 rw [hdm,hy] at hc
 have hu':u=zv.cells[j % es]'(by omega):=by
  have:(madeCells zv.cells (n * es)).toList[j]?=some (zv.cells[j % es]'(by omega)):=by
   simp [madeCells,hj,hzs,hmm]
  rw [hu] at this
  exact Option.some.inj this
 exact hz.2 (j % es) y u hc.symm (by rw [hu']; simp [hzs,hmm])
theorem Q7 {ob:Nat→Option aU} {N C:Nat→Nat} {id:Nat} {t el:TypeId} {mu:Bool} {l c:Operand} {i:TypeInfo} {z:Value} {zv:AV} {y y2:AX} (hI:Inv W O S0 m S ⟨ob,N id,C g0⟩ w) (hg0:m g0=none) (hc':∀ g v,m g=some v→g<C (g0+1)) (hgc:g0<C (g0+1)) (hE:bq m S w e a.tmps)
  (ho:o.op=.makeSlice t l c) (hu:P.underlying t=some (.slice el)) (hi:P.info? el=some i) (hz:i.zero=some z) (hzv:av z=some zv) (hf:zv.flat=true) (hl:zv.cells.length=i.size) (hp:0<i.size)
  (h1:ax l=some y) (h2:ax c=some y2) (hsame:I1 y y2=true) (h:ar (HC P) (.LL mu i.size i.bytes el zv y) e ⟨ob,id,g0⟩ (fun v τ=>K v ⟨τ.ob,N τ.n,C τ.c⟩)) :
  o.wp P a w (Good W O S0 m S w g0 o a K) Q:=by
 have hx:=aC hE h1
 have hx2:=aC hE h2
 simp only [ar] at h
 generalize g0_:y.ev e=G0_ at h
 unfold H8 at h
 split at h
 ·rename_i k n
  rw [g0_] at hx
  have hx:=hx.of_int
  obtain ⟨hn0,hn1,hby,h⟩:=h
  have hx2:∃ k2,a.eval c=.int k2 n:=by
   unfold I1 at hsame
   split at hsame
   ·simp only [beq_iff_eq] at hsame
    subst hsame
    rw [g0_] at hx2
    exact ⟨_,hx2.of_int⟩
   ·simp only [beq_iff_eq] at hsame
    subst hsame
    simp only [AX.ev] at g0_ hx2
    cases g0_
    exact ⟨_,hx2.of_int⟩
   ·cases hsame
  obtain ⟨k2,hx2⟩:=hx2
  have hby2:(i.bytes:Int) * n≤281474976710656:=by
   have h2:((i.bytes * n.toNat:Nat):Int)≤281474976710656:=by omega
   rw [Int.natCast_mul,Int.toNat_of_nonneg hn0] at h2
   exact h2
  have hr:=run_make (P:=P) w t el i z hu hi hz k k2 n n hn0 (Int.le_refl n) hby2 hn1
  obtain ⟨hzr,_⟩:=(VR.pure (m:=m) (eh (S:=S) (w:=w) hzv)).cells hf
  have hv:=iM hzr hl hp hf n.toNat
  have hok:mE i.size (List.replicate n.toNat zv):=fun x hx=>by rw [List.eq_of_mem_replicate hx]; exact ⟨hf,hl⟩
  have hrun:(execOp a.eval o).run P w=.ok (.value (.slice (some ⟨w.heap.size,0,none⟩) n.toNat n.toNat)) (w.alloc (.cells (madeCells z.cells (n.toNat * i.size)) el)):=by
   simp [execOp,ho,hx,hx2,hr]
  cases mu with
  | true=>
   simp only [if_true] at h
   obtain ⟨q1,q2⟩:=hI.Hm (id:=id) (n':=N (id+1)) hg0 hc' hgc (ty:=el) hp hok hv (by simp [maxLen]; omega)
   simp only [List.length_replicate,Array.toArray_toList] at q1 q2
   exact bg hrun h q1 q2 (VR.Jl id) (fun g hg=>aa _ _ _ _ hg)
  | false=>
   simp only [Bool.false_eq_true,if_false] at h
   have q1:=(hI.alloc (.cells (madeCells z.cells (n.toNat * i.size)) el)).yS w.heap.size hI.fr.size (by simp) (fun k ob v hk hm hb=>by
    obtain ⟨v',h8,h9,_⟩:=hI.bu.obj k ob hk
    rw [hm] at h8; obtain rfl:=Option.some.inj h8
    have:=bt h9 hb
    omega)
   have hX:Ext m S w m (fun x=>S x∨x=w.heap.size) (w.alloc (.cells (madeCells z.cells (n.toNat * i.size)) el)):=(nH hI.bu.lt _).trans (iZ m S _ _)
   refine bg hrun h q1 hX ?_ (fun _ _=>rfl)
   by_cases h0:n.toNat=0
   ·rw [h0]; exact .pure (.bP _ _ _)
   ·have hzs:z.cells.size=i.size:=by have:=hzr.1; simp at this; omega
    have key:VP (fun x=>S x∨x=w.heap.size) (w.alloc (.cells (madeCells z.cells (n.toNat * i.size)) el)) (.list i.size (List.replicate n.toNat zv)) (.slice (some ⟨w.heap.size,0,none⟩) (List.replicate n.toNat zv).length n.toNat):=by
     refine .list (fun _ j=>z.cells.getD j undef) (by simpa using h0) (by simp) ⟨.inr rfl,nv.new _ _ _ _⟩ (fun j x hx=>by rw [List.eq_of_mem_replicate (List.mem_of_getElem? hx)]; exact ⟨hf,hl⟩) (fun ii j hii hj=>?_) (fun ii x j yy hx hy=>?_)
     ·rw [List.length_replicate] at hii
      have hlt:ii * i.size+j<n.toNat * i.size:=by
       have:(ii+1) * i.size≤n.toNat * i.size:=Nat.mul_le_mul_right _ hii
       rw [Nat.add_mul] at this; omega
      have hmod:(ii * i.size+j) % i.size=j:=by rw [Nat.mul_add_mod_self_right,Nat.mod_eq_of_lt hj]
      have hmc:(madeCells z.cells (n.toNat * i.size))[ii * i.size+j]?=some (z.cells.getD j undef):=by
       simp [madeCells,hlt,hzs,hmod,hj]
      rw [Nat.zero_add]
      simpa using hmc
     ·rw [List.eq_of_mem_replicate (List.mem_of_getElem? hx)] at hy
      have hj:=(List.getElem?_eq_some_iff.1 hy).1
      have hvp:=eh (S:=fun x=>S x∨x=w.heap.size) (w:=w.alloc (.cells (madeCells z.cells (n.toNat * i.size)) el)) hzv
      obtain ⟨hc,_⟩:=(VR.pure (m:=fun _=>none) hvp).cells hf
      have hc:=hc.2 j yy (z.cells.getD j undef) hy (by simp [hzs,←hl,hj])
      have hav:∀ yy∈zv.cells,yy.cL=true:=by
       intro yy hyy
       unfold av at hzv
       split at hzv
       ·rename_i cs
        obtain ⟨as,has,rfl⟩:=Option.map_eq_some_iff.1 hzv
        have:∀ (vs:List Value) (as:List AV),Mf vs=some as→∀ y∈as,y.cL=true:=by
         intro vs
         induction vs with
         | nil=>intro as h y hy; simp only [Mf,Option.some.injEq] at h; subst h; simp at hy
         | cons v r ih=>
          intro as h y hy
          simp only [Mf] at h
          split at h
          ·rename_i a1 as1 h1 h2
           simp only [Option.some.injEq] at h; subst h
           rcases List.mem_cons.1 hy with rfl | hy
           ·unfold PZ at h1; split at h1 <;> simp only [Option.some.injEq,reduceCtorEq] at h1 <;> subst h1 <;> rfl
           ·exact ih as1 h2 y hy
          ·cases h
        exact this _ _ has yy hyy
       ·unfold PZ at hzv
        split at hzv <;> simp only [Option.some.injEq,reduceCtorEq] at hzv <;> subst hzv <;> simp [AV.cells] at hyy <;> subst hyy <;> rfl
      exact hc.cL (hav yy (List.mem_of_getElem? hy))
    rw [List.length_replicate] at key
    exact .pure key
 ·exact h.elim
theorem Ou {ob:Nat→Option aU} {N C:Nat→Nat} {id:Nat} {t t2 el:TypeId} {kn:IntKind} {i:TypeInfo} {z:Value} {zv:AV} {x y:Operand} {x' y':AX} (hI:Inv W O S0 m S ⟨ob,N id,C g0⟩ w) (hg0:m g0=none) (hc':∀ g v,m g=some v→g<C (g0+1)) (hgc:g0<C (g0+1)) (hE:bq m S w e a.tmps) {c:Call} (ho:o.op=.call c) (hcc:c.callee=.builtin .append)
  (hca:c.args.toList=[x,y]) (hct:c.argTypes.toList=[t,t2]) (hu:P.underlying t=some (.slice el)) (hu2:P.underlying t2=some (.int kn)) (hi:P.info? el=some i) (hz:i.zero=some z) (hzv:av z=some zv) (hf:zv.flat=true) (hl:zv.cells.length=i.size) (hp:0<i.size)
  (h1:ax x=some x') (h2:ax y=some y') (h:ar (HC P) (.Ba i.size i.bytes el zv x' y') e ⟨ob,id,g0⟩ (fun v τ=>K v ⟨τ.ob,N τ.n,C τ.c⟩)):o.wp P a w (Good W O S0 m S w g0 o a K) Q:=by
 have hx:=aC hE h1
 have hy:=aC hE h2
 obtain ⟨cal,args,tys⟩:=c
 simp only at hcc hca hct
 obtain rfl:args=#[x,y]:=by cases args; simp_all
 obtain rfl:tys=#[t,t2]:=by cases tys; simp_all
 subst hcc
 have hb:∀ {v:Value} {w':World},(Builtin.append_ #[t,t2] o.type #[a.eval x,a.eval y]).run P w=.ok v w'→(execOp a.eval o).run P w=.ok (.value v) w':=fun {v w'} hv=>by
  simp [execOp,ho,resolve,invoke,builtin,hv]
 simp only [ar] at h
 generalize g0_:x'.ev e=G0_ at h
 generalize g1_:y'.ev e=G1_ at h
 unfold FZ at h
 split at h
 ·rename_i k n
  rw [g0_] at hx; rw [g1_] at hy
  have hx:=hx.of_nil
  have hy:=hy.of_int
  obtain ⟨hn0,hn1,hby,hK1⟩:=h
  by_cases hn:n=0
  ·omega
  ·have hnn:((n.toNat:Nat):Int)=n:=Int.toNat_of_nonneg (by omega)
   have hr:=Lib.run_append_nil_zeros (P:=P) w t t2 o.type el i z k kn hu hu2 hi hz n.toNat (by omega) hp (by omega) (by omega)
   rw [hnn,←hx,←hy] at hr
   have hcge:n.toNat≤grownCap w n.toNat 0 el:=grownCap_ge w _ _ _
   have hclt:grownCap w n.toNat 0 el≤maxLen:=grownCap_le_maxLen w _ _ _ (by simp [maxLen]; omega)
   obtain ⟨hzr,_⟩:=(VR.pure (m:=m) (eh (S:=S) (w:=w) hzv)).cells hf
   have hzs:z.cells.size=i.size:=by have:=hzr.1; simp at this; omega
   have hv:=iM hzr hl hp hf n.toNat
   have hok:mE i.size (List.replicate n.toNat zv):=fun x hx=>by rw [List.eq_of_mem_replicate hx]; exact ⟨hf,hl⟩
   have hzc:Builtin.zeroCells z.cells n.toNat=madeCells z.cells (n.toNat * i.size):=by simp [Builtin.zeroCells,madeCells,hzs]
   have hzsz:∀ n,(Builtin.zeroCells z.cells n).size=n * i.size:=fun n=>by simp [Builtin.zeroCells,hzs]
   have hown:jw (w.drew.alloc (.cells (Builtin.zeroCells z.cells n.toNat++Builtin.zeroCells z.cells (grownCap w n.toNat 0 el-n.toNat)) el)) el i.size true (.slice (some ⟨w.heap.size,0,none⟩) n.toNat (grownCap w n.toNat 0 el)) (List.replicate n.toNat zv).length (madeCells z.cells (n.toNat * i.size)).toList:=by
    rw [List.length_replicate]
    refine ⟨by simp [size_madeCells],.inr ⟨w.heap.size,_,_,(Builtin.zeroCells z.cells n.toNat++Builtin.zeroCells z.cells (grownCap w n.toNat 0 el-n.toNat)),(0,0),rfl,?_,hcge,hclt,?_,?_,fun k _ h=>by simp at h,fun _=>rfl⟩⟩
    ·show (w.heap.push _)[w.heap.size]?=_
     simp
    ·rw [Array.size_append,hzsz,hzsz,←Nat.add_mul]; congr 1; omega
    ·rw [Array.toList_append,List.take_append_of_le_length (by simp [hzsz]),List.take_of_length_le (by simp [hzsz]),hzc]
   have hgrow:w.grownBy (w.drew.alloc (.cells (Builtin.zeroCells z.cells n.toNat++Builtin.zeroCells z.cells (grownCap w n.toNat 0 el-n.toNat)) el)) none:=
    ⟨rfl,rfl,rfl,by simp,fun k hk _=>Below.heap_alloc w.drew _ k hk⟩
   have hX:Ext m S w (bd m g0 (some (.slice (some ⟨w.heap.size,0,none⟩) n.toNat (grownCap w n.toNat 0 el)))) S (w.drew.alloc (.cells (Builtin.zeroCells z.cells n.toNat++Builtin.zeroCells z.cells (grownCap w n.toNat 0 el-n.toNat)) el)):=
    ⟨ez hg0 _,fun _ h=>h,fun k hk=>hgrow.block k (hI.bu.lt k hk) (by simp)⟩
   have hI':=hI.k8 (row:=none) (xs:=(madeCells z.cells (n.toNat * i.size)).toList) id i.size el true (List.replicate n.toNat zv) _ (N (id+1)) g0 (C (g0+1)) hg0 hc' hgc hgrow hp hok hown (hv.ext hX) (fun b hb=>by cases hb) (fun b hb=>.inr (by simp [Value.ownBlock] at hb; omega))
   refine bg (hb hr) hK1 hI' hX ?_ (fun g hg=>aa _ _ _ _ hg)
   have:=VR.sl (m:=bd m g0 (some (Value.slice (some ⟨w.heap.size,0,none⟩) n.toNat (grownCap w n.toNat 0 el)))) (S:=S) (w:=w.drew.alloc (.cells (Builtin.zeroCells z.cells n.toNat++Builtin.zeroCells z.cells (grownCap w n.toNat 0 el-n.toNat)) el)) (id:=id) (es:=i.size) (off:=0) (n:=n.toNat) (az m g0 _) (by simpa [bN] using hcge) rfl
   simpa [bZ] using this
 ·rename_i id2 g es' off n0 c kn2 n
  rw [g0_] at hx; rw [g1_] at hy
  have hy:=hy.of_int
  obtain ⟨rfl,hn0,hgr0,hmx,hby,obj,hob,hg,hes',hlen,hK⟩:=h
  subst hg
  obtain ⟨b,len,hm,e3,hcap⟩:=hx.fq
  obtain ⟨u,hm',⟨hok,hes0,xs,hown,hxs⟩,_⟩:=hI.bu.obj id2 obj hob
  rw [hm] at hm'
  obtain rfl:=Option.some.inj hm'
  rw [hes'] at hok hown
  have hnn:((n.toNat:Nat):Int)=n:=Int.toNat_of_nonneg (by omega)
  have hl1:((obj.l.drop off).take n0).length=n0:=by simp; omega
  have hokl:mE i.size ((obj.l.drop off).take n0):=fun x hx=>hok x (List.mem_of_mem_drop (List.mem_of_mem_take hx))
  have hxs':bR m S w (aK ((obj.l.drop off).take n0)) ((xs.drop (off * i.size)).take (n0 * i.size)):=by
   have:=(hxs.drop (off * i.size)).take (n0 * i.size)
   rwa [cq off hok,cR n0 (fun x hx=>hok x (List.mem_of_mem_drop hx))] at this
  have hol:((xs.drop (off * i.size)).take (n0 * i.size)).length=n0 * i.size:=by rw [hxs'.1,bp hokl,hl1]
  rcases (hown.own rfl).2 with ⟨h,_⟩ | ⟨b',len',cap',cur,fr,h,hgb,hnc,hcm,hcs,htake,_⟩
  ·cases h
  ·cases h
   have hold:(Builtin.firstCells i.size n0 (.slice (some ⟨b,off * i.size,none⟩) n0 (c-off))).run P w.drew=.ok ((xs.drop (off * i.size)).take (n0 * i.size)).toArray w.drew:=
    run_firstCells_some (P:=P) w.drew i.size n0 ⟨b,off * i.size,none⟩ n0 (c-off) _ hol (fun j v hj=>by
     rw [Addr.add_lit]
     rw [List.getElem?_take] at hj
     split at hj
     ·rw [List.getElem?_drop,←htake,List.getElem?_take] at hj
      split at hj
      ·have:w.drew.heap[b]?=some (.cells cur obj.ty fr):=hgb
       simp only [World.cell?,this]; simpa using hj
      ·cases hj
     ·cases hj)
   have hfit:n.toNat * i.bytes≤(n0+n.toNat) * i.bytes:=Nat.mul_le_mul_right _ (by omega)
   have hr:=Lib.run_append_grow_zeros (P:=P) w t t2 o.type el i z kn2 kn hu hu2 hi hz (some ⟨b,off * i.size,none⟩) n0 (c-off) _ hold n.toNat (by omega) hp hgr0 (by omega) (by omega) (growslice_fits (by omega) hby)
   rw [hnn,←e3,←hy] at hr
   generalize hGdef:grownCap w (n0+n.toNat) (c-off) el=G at *
   have hcge:n0+n.toNat≤G:=by rw [←hGdef]; exact grownCap_ge w _ _ _
   have hclt:G≤maxLen:=by rw [←hGdef]; exact grownCap_le_maxLen w _ _ _ (by simp [maxLen]; omega)
   obtain ⟨hzr,_⟩:=(VR.pure (m:=m) (eh (S:=S) (w:=w) hzv)).cells hf
   have hzs:z.cells.size=i.size:=by have:=hzr.1; simp at this; omega
   have hv:=iM hzr hl hp hf n.toNat
   have hokz:mE i.size ((obj.l.drop off).take n0++List.replicate n.toNat zv):=fun x hx=>by
    rcases List.mem_append.1 hx with hx | hx
    ·exact hokl x hx
    ·rw [List.eq_of_mem_replicate hx]; exact ⟨hf,hl⟩
   have hzc:Builtin.zeroCells z.cells n.toNat=madeCells z.cells (n.toNat * i.size):=by simp [Builtin.zeroCells,madeCells,hzs]
   have hzsz:∀ n,(Builtin.zeroCells z.cells n).size=n * i.size:=fun n=>by simp [Builtin.zeroCells,hzs]
   generalize hODef:(xs.drop (off * i.size)).take (n0 * i.size)=olds at *
   have hown2:jw (w.drew.alloc (.cells (olds.toArray++Builtin.zeroCells z.cells n.toNat++Builtin.zeroCells z.cells (G-(n0+n.toNat))) el)) el i.size true (.slice (some ⟨w.heap.size,0,none⟩) (n0+n.toNat) G) ((obj.l.drop off).take n0++List.replicate n.toNat zv).length (olds++(madeCells z.cells (n.toNat * i.size)).toList):=by
    rw [List.length_append,hl1,List.length_replicate]
    refine ⟨by simp [size_madeCells,hol,Nat.add_mul],.inr ⟨w.heap.size,_,G,(olds.toArray++Builtin.zeroCells z.cells n.toNat++Builtin.zeroCells z.cells (G-(n0+n.toNat))),(0,0),rfl,?_,hcge,hclt,?_,?_,fun k _ h=>by simp at h,fun _=>rfl⟩⟩
    ·show (w.heap.push _)[w.heap.size]?=_
     simp
    ·rw [Array.size_append,Array.size_append,hzsz,hzsz,List.size_toArray,hol,←Nat.add_mul,←Nat.add_mul]; congr 1; omega
    ·rw [Array.toList_append,List.take_append_of_le_length (by simp [hzsz,hol,Nat.add_mul]),List.take_of_length_le (by simp [hzsz,hol,Nat.add_mul]),Array.toList_append,hzc]
   have hgrow:w.grownBy (w.drew.alloc (.cells (olds.toArray++Builtin.zeroCells z.cells n.toNat++Builtin.zeroCells z.cells (G-(n0+n.toNat))) el)) none:=
    ⟨rfl,rfl,rfl,by simp,fun k hk _=>Below.heap_alloc w.drew _ k hk⟩
   have hX:Ext m S w (bd m g0 (some (.slice (some ⟨w.heap.size,0,none⟩) (n0+n.toNat) G))) S (w.drew.alloc (.cells (olds.toArray++Builtin.zeroCells z.cells n.toNat++Builtin.zeroCells z.cells (G-(n0+n.toNat))) el)):=
    ⟨ez hg0 _,fun _ h=>h,fun k hk=>hgrow.block k (hI.bu.lt k hk) (by simp)⟩
   have hI':=hI.k8 (row:=none) (xs:=olds++(madeCells z.cells (n.toNat * i.size)).toList) id i.size el true ((obj.l.drop off).take n0++List.replicate n.toNat zv) _ (N (id+1)) g0 (C (g0+1)) hg0 hc' hgc hgrow hp hokz hown2 (by rw [fX]; exact (hxs'.append hv).ext hX) (fun b hb=>by cases hb) (fun b hb=>.inr (by simp [Value.ownBlock] at hb; omega))
   refine bg (hb hr) hK hI' hX ?_ (fun g hg=>aa _ _ _ _ hg)
   have:=VR.sl (m:=bd m g0 (some (Value.slice (some ⟨w.heap.size,0,none⟩) (n0+n.toNat) G))) (S:=S) (w:=w.drew.alloc (.cells (olds.toArray++Builtin.zeroCells z.cells n.toNat++Builtin.zeroCells z.cells (G-(n0+n.toNat))) el)) (id:=id) (es:=i.size) (off:=0) (n:=n0+n.toNat) (az m g0 _) (by simpa [bN] using hcge) rfl
   simpa [bZ] using this
 ·exact h.elim
theorem Ov {obs:Nat→Option aU} {N C:Nat→Nat} {ni:Nat} {t el:TypeId} {i:TypeInfo} {z:Value} {x y:Operand} {x' y':AX} (hI:Inv W O S0 m S ⟨obs,N ni,C g0⟩ w) (hg0:m g0=none) (hc':∀ g v,m g=some v→g<C (g0+1)) (hgc:g0<C (g0+1)) (hE:bq m S w e a.tmps) {c:Call} (ho:o.op=.call c) (hcc:c.callee=.builtin .append)
  (hca:c.args.toList=[x,y]) (hct:c.argTypes.toList=[t,t]) (hu:P.underlying t=some (.slice el)) (hi:P.info? el=some i) (hz:i.zero=some z) (hzs:z.cells.size=i.size) (hp:0<i.size)
  (h1:ax x=some x') (h2:ax y=some y') (hn:DP x'=true) (h:ar (HC P) (.Ev i.size i.bytes el y') e ⟨obs,ni,g0⟩ (fun v τ=>K v ⟨τ.ob,N τ.n,C τ.c⟩)):o.wp P a w (Good W O S0 m S w g0 o a K) Q:=by
 have hx:=aC hE h1
 have hx:a.eval x=.slice none 0 0:=by
  unfold DP at hn
  split at hn
  ·exact hx.of_nil
  ·cases hn
 have hy:=aC hE h2
 simp only [ar,Ng] at h
 obtain ⟨hesl,hes,h⟩:=h
 obtain ⟨l,ad,n,cp,news,hK,hok,ey,rfl,hnews,had⟩:=jb hI.bu hy hes hesl (CQ (σ:=⟨obs,N ni,C g0⟩) h rfl)
 obtain ⟨hmx,hby,hK⟩:=hK
 by_cases hl:l=[]
 ·subst hl
  obtain ⟨cal,args,tys⟩:=c
  simp only at hcc hca hct
  obtain rfl:args=#[x,y]:=by cases args; exact congrArg Array.mk hca
  obtain rfl:tys=#[t,t]:=by cases tys; exact congrArg Array.mk hct
  subst hcc
  have hX:Ext m S w (bd m g0 (some (.slice none 0 0))) S w:=⟨ez hg0 _,fun _ h=>h,fun _ _=>rfl⟩
  have hI':=hI.k8 (row:=none) (xs:=[]) ni i.size el true [] (.slice none 0 0) (N (ni+1)) g0 (C (g0+1)) hg0 hc' hgc ⟨rfl,rfl,rfl,Nat.le_refl _,fun _ _ _=>rfl⟩ hp (fun x hx=>by simp at hx) ⟨by simp,.inl ⟨rfl,rfl⟩⟩ bR.nil (fun b hb=>by cases hb) (fun b hb=>by simp [Value.ownBlock] at hb)
  have hr:=cE (P:=P) (ty:=o.type) hu hi w none 0 0 (Nat.le_refl 0) (a.eval y) ey (fun _=>trivial)
  refine bg (v:=.slice none 0 0) ?_ hK hI' hX ?_ (fun g hg=>aa _ _ _ _ hg)
  ·rw [←hx] at hr
   rw [hx] at hr
   simp [execOp,ho,resolve,invoke,builtin,hx,hr]
  ·have:=VR.sl (m:=bd m g0 (some (Value.slice none 0 0))) (S:=S) (w:=w) (id:=ni) (es:=i.size) (off:=0) (n:=0) (az m g0 _) (by simp [bN]) rfl
   simpa [bZ] using this
 ·refine M3 hI hg0 hc' hgc hE ho hcc hca hct hu hi hz hzs hp h1 h2 ?_
  have hxe:x'.ev e=.nil:=by
   unfold DP at hn
   split at hn
   ·rfl
   ·cases hn
  simp only [ar,mT,hxe]
  refine ⟨hesl,hes,?_⟩
  unfold bY at h ⊢
  split at h
  ·rename_i hyn
   have hyv:=hy
   rw [hyn] at hyv
   rw [hyv.of_nil] at ey
   injection ey with e1 e2 e3
   exact absurd (List.eq_nil_of_length_eq_zero e2.symm) hl
  ·rename_i es' ls hyl
   exact ⟨h.1,h.2.1,fun hh=>(by
    have hyv:=hy
    rw [hyl] at hyv
    obtain ⟨ad2,cap2,e3,_⟩:=hyv.iK
    rw [e3] at ey
    injection ey with e1 e2 e4
    exact absurd (List.eq_nil_of_length_eq_zero (by rw [←e2,hh]; rfl)) hl),fun _=>h.2.2⟩
  ·rename_i id g es' off n hys
   obtain ⟨ob,a1,a2,a3,a4,b1,b2,b3⟩:=h
   refine ⟨ob,a1,a2,a3,a4,b1,b2,fun hh=>?_,fun _=>b3⟩
   have hyv:=hy
   rw [hys] at hyv
   obtain ⟨u,_,e3,hcap⟩:=hyv.dv
   obtain ⟨ad3,cap3,e4⟩:=nI (es:=es') hcap
   rw [e3,e4] at ey
   injection ey with e1 e2 e5
   have:((ob.l.drop off).take n).length=0:=by rw [hh]; rfl
   simp at this
   have hlen:l.length=0:=by omega
   exact absurd (List.eq_nil_of_length_eq_zero hlen) hl
  ·rename_i id g es' off n c hys
   obtain ⟨ob,a1,a2,a3,a4,b1,b2,b3⟩:=h
   refine ⟨ob,a1,a2,a3,a4,b1,b2,fun hh=>?_,fun _=>b3⟩
   have hyv:=hy
   rw [hys] at hyv
   obtain ⟨b,len,_,e3,hcap⟩:=hyv.fq
   rw [e3] at ey
   injection ey with e1 e2 e5
   have:((ob.l.drop off).take n).length=0:=by rw [hh]; rfl
   simp at this
   have hlen:l.length=0:=by omega
   exact absurd (List.eq_nil_of_length_eq_zero hlen) hl
  ·exact h
theorem uc {n sz:Nat} (hE:bq m S w e a.tmps):∀ {parts:List (Nat × Operand)} {ps:List (Nat × Nat × AX)},vY n sz parts=some ps→
  parts.length=ps.length∧∀ (j:Nat) (k:Nat) (x:Operand) (off s:Nat) (y:AX),parts[j]?=some (k,x)→ps[j]?=some (off,s,y)→off=k * sz∧s=sz∧VR m S w (y.ev e) (a.eval x)
 | [],ps,h=>by simp only [vY,Option.some.injEq] at h; subst h; exact ⟨rfl,fun j k x off sz y a=>by simp at a⟩
 | (k0,x0) :: r,ps,h=>by
  simp only [vY] at h
  split at h
  ·rename_i a0 as0 h2 h3
   split at h
   ·simp only [Option.some.injEq] at h; subst h
    obtain ⟨hl,hh⟩:=uc hE h3
    refine ⟨by simp [hl],fun j k x off s y hj hj'=>?_⟩
    cases j with
    | zero=>
     simp at hj hj'
     obtain ⟨rfl,rfl⟩:=hj
     obtain ⟨rfl,rfl,rfl⟩:=hj'
     exact ⟨rfl,rfl,aC hE h2⟩
    | succ j=>exact hh j k x off s y (by simpa using hj) (by simpa using hj')
   ·cases h
  ·cases h
theorem I5 {t el:TypeId} {n:Nat} {parts:Array (Nat × Operand)} {i ei:TypeInfo} {z:Value} {zs:List AV} {ps:List (Nat × Nat × AX)} (hI:Inv W O S0 m S σ w) (hE:bq m S w e a.tmps)
  (ho:o.op=.build t parts) (hu:P.underlying t=some (.array n el)) (hi:P.info? t=some i) (hz:i.zero=some z) (hzv:av z=some (.agg zs)) (hei:P.info? el=some ei)
  (hps:vY n ei.size parts.toList=some ps) (h:ar (HC P) (.build zs ps) e σ K):o.wp P a w (Good W O S0 m S w g0 o a K) Q:=by
 simp only [ar,AP,KL,List.map_map,Function.comp_def,List.forall_mem_map] at h
 obtain ⟨hp,h⟩:=h
 obtain ⟨zc,rfl,hzc⟩:=(VR.pure (m:=m) (eh (S:=S) (w:=w) hzv)).ov
 obtain ⟨hl,hh⟩:=uc hE hps
 obtain ⟨cells',h1,h2⟩:=tj (m:=m) (S:=S) (w:=w) (fun i=>some (i * ei.size,ei.size)) (parts.toList.map fun p=>(p.1,a.eval p.2)) (ps.map fun p=>(p.1,p.2.2.ev e)) zc zs (by simpa using hl)
  (fun j k u off v hj hj'=>by
   simp only [List.getElem?_map,Option.map_eq_some_iff,Prod.mk.injEq] at hj hj'
   obtain ⟨⟨k0,x0⟩,hj,rfl,rfl⟩:=hj
   obtain ⟨⟨off0,sz0,y0⟩,hj',rfl,rfl⟩:=hj'
   obtain ⟨h3,h4,h7⟩:=hh j _ _ _ _ _ hj hj'
   obtain ⟨h8,h9,h10⟩:=hp _ (List.mem_of_getElem? hj')
   simp only at h8 h9 h10
   obtain ⟨h11,_⟩:=h7.cells h8
   subst h3; subst h4
   refine ⟨?_,by rw [h9]; exact h10,h11⟩
   simp [h9]) hzc
 refine aj (v:=.agg cells') hI ?_ h (VR.Af h2)
 have e1:(Array.map (fun x:Nat × Operand=>(x.1,a.eval x.2)) parts).toList=parts.toList.map fun p=>(p.1,a.eval p.2):=by simp
 simp only [execOp,ho,Instr.build,zeroValue,typeInfo,Sem.run_bind,run_program,Result.andThen_ok,hi,hz,Sem.run_pure,run_underlying hu,aP hei,Value.cells]
 rw [e1,h1]
 simp
theorem Ok {t el:TypeId} {ei:TypeInfo} {x lo hi mx:Operand} {y l' h' m':AX} (hI:Inv W O S0 m S σ w) (hE:bq m S w e a.tmps) (ho:o.op=.slice t x (some lo) (some hi) (some mx)) (hu:P.underlying t=some (.slice el))
  (hi':P.info? el=some ei) (h1:ax x=some y) (h2:ax lo=some l') (h3:ax hi=some h') (h4:ax mx=some m') (h:ar (HC P) (.Ge ei.size y l' h' m') e σ K):o.wp P a w (Good W O S0 m S w g0 o a K) Q:=by
 have hx:=aC hE h1
 have hl:=aC hE h2
 have hh:=aC hE h3
 have hm:=aC hE h4
 have key:∀ {ad:Option Addr} {n cap:Nat} {k1 k2 k3:IntKind} {p q r:Int},a.eval x=.slice ad n cap→a.eval lo=.int k1 p→a.eval hi=.int k2 q→a.eval mx=.int k3 r→0≤p→p≤q→q≤r→r≤cap→
   ∃ v,(execOp a.eval o).run P w=.ok (.value v) w:=by
  intro ad n cap k1 k2 k3 p q r e1 e2 e3 e4 a1 a2 a3 a4
  have b1:=run_sliceBound (P:=P) (w:=w) (code:=.slice3Acap) (y:=cap) e4 (by omega) a4
  have b2:=run_sliceBound (P:=P) (w:=w) (code:=.slice3B) (y:=r.toNat) e3 (by omega) (by omega)
  have b3:=run_sliceBound (P:=P) (w:=w) (code:=.slice3C) (y:=q.toNat) e2 (by omega) (by omega)
  refine ⟨_,by simp only [execOp,ho,Instr.sliceAt,run_underlying hu,Instr.slice,e1,Instr.sliceBounds,Option.map_some,Sem.run_bind,Result.andThen_ok,if_true,b1,b2,Option.isSome_some,b3,Sem.run_pure,aP hi']; rfl⟩
 simp only [ar] at h
 generalize g0_:y.ev e=G0_ at h
 generalize g1_:l'.ev e=G1_ at h
 generalize g2_:h'.ev e=G2_ at h
 generalize g3_:m'.ev e=G3_ at h
 unfold zn at h
 split at h
 ·rename_i id g es off n k1 p k2 q k3 r
  rw [g0_] at hx; rw [g1_] at hl; rw [g2_] at hh; rw [g3_] at hm
  obtain ⟨_,a1,a2,a3,a4,hK⟩:=h
  obtain ⟨u,_,e3,hcap⟩:=hx.dv
  have hc:∃ ad cap,a.eval x=.slice ad n cap∧n≤cap:=by
   unfold bN at hcap
   split at hcap
   ·exact ⟨_,_,e3,by omega⟩
   ·obtain ⟨ad,cap,e4⟩:=nI (u:=u) (es:=es) (off:=off) (n:=n) (by unfold bN; omega)
    exact ⟨ad,cap,by rw [e3,e4],by omega⟩
  obtain ⟨ad,cap,e1,hnc⟩:=hc
  obtain ⟨v,hv⟩:=key e1 hl.of_int hh.of_int hm.of_int a1 a2 a3 (by omega)
  exact aj (v:=v) hI hv hK (.bC _)
 ·rename_i es ls k1 p k2 q k3 r
  rw [g0_] at hx; rw [g1_] at hl; rw [g2_] at hh; rw [g3_] at hm
  obtain ⟨_,a1,a2,a3,a4,hK⟩:=h
  obtain ⟨ad,cap,e1,hcap,_⟩:=hx.iK
  obtain ⟨v,hv⟩:=key e1 hl.of_int hh.of_int hm.of_int a1 a2 a3 (by omega)
  exact aj (v:=v) hI hv hK (.bC _)
 ·rename_i id g es off n c k1 p k2 q k3 r
  rw [g0_] at hx; rw [g1_] at hl; rw [g2_] at hh; rw [g3_] at hm
  obtain ⟨_,a1,a2,a3,a4,hK⟩:=h
  obtain ⟨b,len,_,e1,hcap⟩:=hx.fq
  obtain ⟨v,hv⟩:=key e1 hl.of_int hh.of_int hm.of_int a1 a2 a3 (by omega)
  exact aj (v:=v) hI hv hK (.bC _)
 ·exact h.elim
theorem Q3 {obs:Nat→Option aU} {N C:Nat→Nat} {ni:Nat} {t el:TypeId} {ei:TypeInfo} {x hi:Operand} {y z:AX} (hI:Inv W O S0 m S ⟨obs,N ni,C g0⟩ w) (hg0:m g0=none) (hc':∀ g v,m g=some v→g<C (g0+1)) (hgc:g0<C (g0+1)) (hE:bq m S w e a.tmps)
  (ho:o.op=.slice t x none (some hi) none) (hu:P.underlying t=some (.slice el)) (hi':P.info? el=some ei) (hp:0<ei.size) (hc:ax x=some y) (h1:ax hi=some z)
  (h:ar (HC P) (.Lj ei.size y z) e ⟨obs,ni,g0⟩ (fun v τ=>K v ⟨τ.ob,N τ.n,C τ.c⟩)):o.wp P a w (Good W O S0 m S w g0 o a K) Q:=by
 have hx:=aC hE hc
 have hz:=aC hE h1
 simp only [ar] at h
 generalize g0_:y.ev e=G0_ at h
 generalize g1_:z.ev e=G1_ at h
 unfold Of at h
 split at h
 ·rename_i id g es off n k q
  rw [g0_] at hx; rw [g1_] at hz
  have hz:=hz.of_int
  obtain ⟨rfl,rfl,hq0,hqn,ob,hob,hg,hes,hro,hnl,hK⟩:=h
  subst hg
  obtain ⟨u,hm,⟨hokb,_,xs,hownb,hxs⟩,e3,hcap,hcase⟩:=zu hI.bu hx hob rfl
  rw [hes] at hownb
  obtain ⟨v',hm',_,hblk⟩:=hI.bu.obj id ob hob
  rw [hm] at hm'; obtain rfl:=Option.some.inj hm'
  have hqn':q.toNat≤n:=by omega
  have hlen:(ob.l.take q.toNat).length=q.toNat:=by simp; omega
  -- the value
  obtain ⟨v2,hv2,hrun,hown2⟩:∃ v2,v2.ownBlock=u.ownBlock∧(execOp a.eval o).run P w=.ok (.value v2) w∧
    (jw w ob.ty ei.size ob.ap v2 q.toNat (xs.take (q.toNat * ei.size))∧v2=bZ v2 ei.size 0 q.toNat∧q.toNat≤bN v2):=by
   rcases hcase with rfl | ⟨b,len,cap,rfl⟩
   ·simp only [bN] at hcap
    obtain rfl:n=0:=by omega
    have hq:q=0:=by omega
    subst hq
    refine ⟨.slice none 0 0,rfl,?_,⟨by simp,.inl ⟨rfl,rfl⟩⟩,rfl,by simp⟩
    rw [show bZ (.slice none 0 0) ei.size 0 0=Value.slice none 0 0 from rfl] at e3
    have hb:=run_sliceBound (P:=P) (w:=w) (code:=.sliceAcap) (y:=0) hz (Int.le_refl 0) (by simp)
    simp [execOp,ho,Instr.sliceAt,run_underlying hu,Instr.slice,e3,Instr.sliceBounds,hb,aP hi']
   ·simp only [bN] at hcap
    simp only [bZ,Nat.zero_mul,Nat.sub_zero] at e3
    refine ⟨.slice (some ⟨b,0,none⟩) q.toNat cap,rfl,?_,⟨?_,.inr ?_⟩,by simp [bZ],by simp only [bN]; omega⟩
    ·have hb:=run_sliceBound (P:=P) (w:=w) (code:=.sliceAcap) (y:=cap) hz hq0 (by omega)
     simp [execOp,ho,Instr.sliceAt,run_underlying hu,Instr.slice,e3,Instr.sliceBounds,hb,aP hi',Addr.add_lit]
    ·have:=hownb.1
     have hle:q.toNat * ei.size≤ob.l.length * ei.size:=Nat.mul_le_mul_right _ (by omega)
     simp; omega
    ·rcases hownb.2 with ⟨hh,_⟩ | ⟨b',len',cap',cur,fr,hh,hgb,hnc,hcm,hcs,htake,hfr,hap⟩
     ·cases hh
     ·cases hh
      refine ⟨b,_,cap,cur,fr,rfl,hgb,by omega,hcm,hcs,?_,hfr,hap⟩
      have hle:q.toNat * ei.size≤ob.l.length * ei.size:=Nat.mul_le_mul_right _ (by omega)
      rw [←htake,List.take_take,Nat.min_eq_left hle]
  obtain ⟨hown2,hcv,hcc⟩:=hown2
  have hX:Ext m S w (bd m g0 (some v2)) S w:=⟨ez hg0 _,fun _ h=>h,fun _ _=>rfl⟩
  have hokn:mE ei.size (ob.l.take q.toNat):=fun x hx=>by rw [←hes]; exact hokb x (List.mem_of_mem_take hx)
  have hxt:bR m S w (aK (ob.l.take q.toNat)) (xs.take (q.toNat * ei.size)):=by
   rw [←hes] at *
   rw [←cR _ hokb]
   exact hxs.take _
  have hI':=hI.k8 (row:=u.ownBlock) (xs:=xs.take (q.toNat * ei.size)) id ei.size ob.ty ob.ap (ob.l.take q.toNat) v2 (N ni) g0 (C (g0+1)) hg0 hc' hgc ⟨rfl,rfl,rfl,Nat.le_refl _,fun _ _ _=>rfl⟩ hp hokn (by rw [hlen]; exact hown2) (hxt.ext hX)
   (fun b hb=>⟨(hblk b hb).2 hro,hI.fr.own id ob u b hob hro hm hb,fun k o' u' hk ho' hm' hb'=>hI.bu.iB k id o' ob u' u b ho' hob hk hm' hm hb' hb⟩) (fun b hb=>.inl (by rw [←hv2]; exact hb))
  refine bg hrun hK ?_ hX ?_ (fun g hg=>aa _ _ _ _ hg)
  ·simp only [St.renew]; rw [hes,hro]; exact hI'
  ·have:=VR.sl (m:=bd m g0 (some v2)) (S:=S) (w:=w) (id:=id) (es:=ei.size) (off:=0) (n:=q.toNat) (az m g0 _) (by omega) (hcv ▸ rM _ _ _ _)
   rw [←hcv] at this
   exact this
 ·exact h.elim
theorem Ri {t t2 el:TypeId} {i:TypeInfo} {x y:Operand} {x' y':AX} (hI:Inv W O S0 m S σ w) (hE:bq m S w e a.tmps) {c:Call} (ho:o.op=.call c) (hcc:c.callee=.builtin .copy) (hca:c.args.toList=[x,y]) (hct:c.argTypes.toList=[t,t2])
  (hu:P.underlying t=some (.slice el)) (hi:P.info? el=some i) (h1:ax x=some x') (h2:ax y=some y') (h:ar (HC P) (.Ga i.size x' y') e σ K):o.wp P a w (Good W O S0 m S w g0 o a K) Q:=by
 have hx:=aC hE h1
 have hy:=aC hE h2
 obtain ⟨cal,args,tys⟩:=c
 simp only at hcc hca hct
 obtain rfl:args=#[x,y]:=by cases args; simp_all
 obtain rfl:tys=#[t,t2]:=by cases tys; simp_all
 subst hcc
 have hb:∀ {v:Value} {w':World},(Builtin.copy_ #[t,t2] o.type #[a.eval x,a.eval y]).run P w=.ok v w'→(execOp a.eval o).run P w=.ok (.value v) w':=fun {v w'} hv=>by
  simp [execOp,ho,resolve,invoke,builtin,hv]
 have core:∀ {id:Nat} {ob:aU} {b len cap off k:Nat} {l:List AV} {vs:List Value} {b2 q ny cp:Nat},σ.ob id=some ob→ob.es=i.size→ob.ro=false→m ob.g=some (.slice (some ⟨b,0,none⟩) len cap)→mE i.size l→bR m S w (aK l) vs→
   off≤ob.l.length→off+l.length≤cap→a.eval x=.slice (some ⟨b,off * i.size,none⟩) k (cap-off)→a.eval y=.slice (some ⟨b2,q,none⟩) ny cp→min ny k=l.length→(∀ j u,vs[j]?=some u→w.cell? ⟨b2,q+j,none⟩=some u)→
   K (.int .i64 (l.length:Nat)) (σ.put id ob (ob.l.take off++l++ob.l.drop (off+l.length)))→o.wp P a w (Good W O S0 m S w g0 o a K) Q:=by
  intro id ob b len cap off k l vs b2 q ny cp hob hes' hro hm hok hv hoff hfit e3 ey hmin hcell hK
  obtain ⟨w',hst,hI',hX⟩:=vW (P:=P) hI (off:=off) hob hro hm (by rw [hes']; exact hok) hv hoff hfit
  rw [hes'] at hst
  have hfc:=run_firstCells_some (P:=P) w i.size l.length ⟨b2,q,none⟩ ny cp vs (by rw [hv.1,bp hok]) (fun j v hj=>by rw [Addr.add_lit]; exact hcell j v hj)
  have hmin':Nat.min ny k=l.length:=hmin
  refine bg (v:=goInt ((l.length:Nat):Int)) (hb ?_) hK hI' hX (.pure (.int _ _)) (fun _ _=>rfl)
  rw [e3,ey]
  simp [Builtin.copy_,run_underlying hu,aP hi,Builtin.lenOf,hmin',hfc,hst]
 simp only [ar,D6] at h
 rcases h with h | ⟨hesl,hes,h⟩
 ·generalize g0_:x'.ev e=G0_ at h
  generalize g1_:y'.ev e=G1_ at h
  unfold JY at h
  split at h
  ·rename_i id g e1 off n c id2 g2 e2 off2 n2 c2
   rw [g0_] at hx; rw [g1_] at hy
   obtain ⟨rfl,rfl,hpos,o2,ho2,hg2,hes2,hle2,ob,hob,hg,hes',hro,hoff,hK⟩:=h
   subst hg; subst hg2
   obtain ⟨b,len,hm,e3,hc⟩:=hx.fq
   obtain ⟨b2,len2,hm2,e4,hc2⟩:=hy.fq
   obtain ⟨u,hm',⟨hok,hes0,xs,hown,hxs⟩,_⟩:=hI.bu.obj id2 o2 ho2
   rw [hm2] at hm'
   obtain rfl:=Option.some.inj hm'
   rw [hes2] at hok hown
   have hl:((o2.l.drop off2).take (min n2 n)).length=min n2 n:=by rw [List.length_take,List.length_drop]; omega
   have hok':mE i.size ((o2.l.drop off2).take (min n2 n)):=fun x hx=>hok x (List.mem_of_mem_drop (List.mem_of_mem_take hx))
   have hxs':bR m S w (aK ((o2.l.drop off2).take (min n2 n))) ((xs.drop (off2 * i.size)).take (min n2 n * i.size)):=by
    have:=(hxs.drop (off2 * i.size)).take (min n2 n * i.size)
    rwa [cq off2 hok,cR (min n2 n) (fun x hx=>hok x (List.mem_of_mem_drop hx))] at this
   rcases (hown.own rfl).2 with ⟨h,_⟩ | ⟨b',len',cap',cur,fr,h,hgb,hnc,hcm,hcs,htake,_⟩
   ·cases h
   ·cases h
    refine core hob hes' hro hm hok' hxs' hoff (by omega) e3 e4 (by rw [hl]) (fun j u hu=>?_) (by rw [hl]; exact hK)
    rw [List.getElem?_take] at hu
    split at hu
    ·rw [List.getElem?_drop,←htake,List.getElem?_take] at hu
     split at hu
     ·simp only [World.cell?,hgb]; simpa using hu
     ·cases hu
    ·cases hu
  ·exact h.elim
 obtain ⟨l,ad,n,cp,news,hK,hok,ey,rfl,hnews,had⟩:=jb hI.bu hy hes hesl h
 have hnl:news.length=l.length * i.size:=by rw [hnews.1,bp hok]
 have hfc0:(Builtin.firstCells i.size 0 (a.eval y)).run P w=.ok #[] w:=by
  rw [ey]; cases ad <;> simp [Builtin.firstCells,loadCells,loadCellsFrom]
 have nothing:∀ {b:Option Addr} {k cap:Nat},a.eval x=.slice b k cap→min l.length k=0→(Builtin.copy_ #[t,t2] o.type #[a.eval x,a.eval y]).run P w=.ok (goInt 0) w:=by
  intro b k cap hv hk
  have hk':Nat.min l.length k=0:=hk
  rw [hv]
  rw [ey] at hfc0 ⊢
  cases b <;> simp [Builtin.copy_,run_underlying hu,aP hi,Builtin.lenOf,hk',hfc0,storeCells]
 split at hK
 ·rename_i e1
  rw [e1] at hx
  exact aj (v:=goInt 0) hI (hb (nothing hx.of_nil (by simp))) hK (.pure (.int _ _))
 ·rename_i e1
  rw [e1] at hx
  obtain ⟨ad2,cap2,e3,_⟩:=hx.iK
  exact aj (v:=goInt 0) hI (hb (nothing e3 (by simp))) hK (.pure (.int _ _))
 ·rename_i id g es' off k e1
  rw [e1] at hx
  obtain ⟨rfl,ob,hob,hg,hes',hro,hlen,hK⟩:=hK
  subst hg
  obtain ⟨u,hm,hobj,e3,hcap,hcase⟩:=zu hI.bu hx hob rfl
  by_cases h0:min l.length k=0
  ·have hk0:l.take k=[]:=by
    rcases Nat.min_eq_zero_iff.1 h0 with h | h
    ·rw [List.length_eq_zero_iff.1 h]; simp
    ·rw [h]; simp
   obtain ⟨ad2,cap2,e4⟩:=nI (es:=i.size) hcap
   rw [e4] at e3
   rw [h0,hk0,List.append_nil,Nat.add_zero,List.take_append_drop,zE hob] at hK
   exact aj (v:=goInt 0) hI (hb (nothing e3 h0)) hK (.pure (.int _ _))
  ·rcases hcase with rfl | ⟨b,len,cap,rfl⟩
   ·simp only [bN] at hcap; simp at h0; omega
   ·simp only [bZ] at e3
    simp only [bN] at hcap
    have hl0:l≠[]:=fun hh=>by subst hh; simp at h0
    obtain ⟨b2,q,rfl,hcell⟩:=had hl0
    have hkl:(l.take k).length=min l.length k:=by rw [List.length_take,Nat.min_comm]
    have htk:l.take k=l.take (min l.length k):=by
     rcases Nat.le_total l.length k with h | h
     ·rw [Nat.min_eq_left h,List.take_of_length_le h,List.take_of_length_le (Nat.le_refl _)]
     ·rw [Nat.min_eq_right h]
    have hvk:bR m S w (aK (l.take k)) (news.take (min l.length k * i.size)):=by
     rw [htk,←cR _ hok]; exact hnews.take _
    refine core hob hes' hro hm (fun x hx=>hok x (List.mem_of_mem_take hx)) hvk (by omega) (by omega) e3 ey (by rw [hkl]) (fun j v hj=>?_) (by rw [hkl]; exact hK)
    rw [List.getElem?_take] at hj
    split at hj
    ·exact hcell j v hj
    ·cases hj
 ·rename_i id g es' off k c e1
  rw [e1] at hx
  obtain ⟨rfl,hpos,ob,hob,hg,hes',hro,hoff,hK⟩:=hK
  subst hg
  obtain ⟨b,len,hm,e3,hcap⟩:=hx.fq
  have hl0:l≠[]:=fun hh=>by subst hh; simp at hpos
  obtain ⟨b2,q,rfl,hcell⟩:=had hl0
  have hkl:(l.take k).length=min l.length k:=by rw [List.length_take,Nat.min_comm]
  have htk:l.take k=l.take (min l.length k):=by
   rcases Nat.le_total l.length k with h | h
   ·rw [Nat.min_eq_left h,List.take_of_length_le h,List.take_of_length_le (Nat.le_refl _)]
   ·rw [Nat.min_eq_right h]
  have hvk:bR m S w (aK (l.take k)) (news.take (min l.length k * i.size)):=by
   rw [htk,←cR _ hok]; exact hnews.take _
  refine core hob hes' hro hm (fun x hx=>hok x (List.mem_of_mem_take hx)) hvk hoff (by omega) e3 ey (by rw [hkl]) (fun j v hj=>?_) (by rw [hkl]; exact hK)
  rw [List.getElem?_take] at hj
  split at hj
  ·exact hcell j v hj
  ·cases hj
 ·exact hK.elim
theorem Rj {t el:TypeId} {i:TypeInfo} {z:Value} {zv:AV} {x:Operand} {y:AX} (hI:Inv W O S0 m S σ w) (hE:bq m S w e a.tmps) {c:Call} (ho:o.op=.call c) (hcc:c.callee=.builtin .clear) (hca:c.args.toList=[x]) (hct:c.argTypes.toList=[t])
  (hu:P.underlying t=some (.slice el)) (hi:P.info? el=some i) (hz:i.zero=some z) (hzv:av z=some zv) (hf:zv.flat=true) (hl:zv.cells.length=i.size) (hp:0<i.size) (h1:ax x=some y)
  (h:ar (HC P) (.KM i.size zv y) e σ K):o.wp P a w (Good W O S0 m S w g0 o a K) Q:=by
 have hx:=aC hE h1
 obtain ⟨cal,args,tys⟩:=c
 simp only at hcc hca hct
 obtain rfl:args=#[x]:=by cases args; simp_all
 obtain rfl:tys=#[t]:=by cases tys; simp_all
 subst hcc
 have hb:∀ {v:Value} {w':World},(Builtin.clear_ #[t] o.type #[a.eval x]).run P w=.ok v w'→(execOp a.eval o).run P w=.ok (.value v) w':=fun {v w'} hv=>by
  simp [execOp,ho,resolve,invoke,builtin,hv]
 have nothing:∀ {b:Option Addr} {cap:Nat},a.eval x=.slice b 0 cap→(Builtin.clear_ #[t] o.type #[a.eval x]).run P w=.ok (.tuple #[]) w:=by
  intro b cap hv
  rw [hv]
  cases b <;> simp [Builtin.clear_,run_underlying hu]
 have tup:VR m S w (.tuple []) (.tuple #[]):=VR.nr (by simpa using bR.nil)
 have core:∀ {id:Nat} {ob:aU} {b len cap off n:Nat},σ.ob id=some ob→ob.es=i.size→ob.ro=false→m ob.g=some (.slice (some ⟨b,0,none⟩) len cap)→off≤ob.l.length→off+n≤cap→n≠0→
   a.eval x=.slice (some ⟨b,off * i.size,none⟩) n (cap-off)→K (.tuple []) (σ.put id ob (ob.l.take off++List.replicate n zv++ob.l.drop (off+n)))→o.wp P a w (Good W O S0 m S w g0 o a K) Q:=by
  intro id ob b len cap off n hob hes' hro hm hoff hfit h0 e3 hK
  obtain ⟨hzr,_⟩:=(VR.pure (m:=m) (eh (S:=S) (w:=w) hzv)).cells hf
  have hv:=iM hzr hl hp hf n
  have hokk:mE ob.es (List.replicate n zv):=fun x hx=>by rw [List.eq_of_mem_replicate hx,hes']; exact ⟨hf,hl⟩
  obtain ⟨w',hst,hI',hX⟩:=vW (P:=P) hI (off:=off) hob hro hm hokk hv hoff (by simpa using hfit)
  rw [hes'] at hst
  rw [List.length_replicate] at hI'
  have hzs:z.cells.size=i.size:=by have:=hzr.1; simp at this; omega
  refine bg (hb ?_) hK hI' hX ((VR.nr (by simpa using bR.nil))) (fun _ _=>rfl)
  rw [e3]
  have hzc:(Builtin.zeroCells z.cells n).toList=(madeCells z.cells (n * i.size)).toList:=by simp [Builtin.zeroCells,madeCells,hzs]
  obtain ⟨n',rfl⟩:∃ n',n=n'+1:=⟨n-1,by omega⟩
  simp [Builtin.clear_,run_underlying hu,zeroValue,typeInfo,hi,hz,hzc,hst]
 simp only [ar] at h
 generalize g0_:y.ev e=G0_ at h
 unfold Im at h
 split at h
 ·rw [g0_] at hx
  exact aj hI (hb (nothing hx.of_nil)) h tup
 ·rw [g0_] at hx
  obtain ⟨ad2,cap2,e3,_⟩:=hx.iK
  exact aj hI (hb (nothing e3)) h tup
 ·rename_i id g es' off n
  rw [g0_] at hx
  obtain ⟨rfl,ob,hob,hg,hes',hro,hlen,hK⟩:=h
  subst hg
  obtain ⟨u,hm,hobj,e3,hcap,hcase⟩:=zu hI.bu hx hob rfl
  by_cases h0:n=0
  ·subst h0
   obtain ⟨ad2,cap2,e4⟩:=nI (es:=i.size) hcap
   rw [e4] at e3
   rw [List.replicate_zero,List.append_nil,Nat.add_zero,List.take_append_drop,zE hob] at hK
   exact aj hI (hb (nothing e3)) hK tup
  ·rcases hcase with rfl | ⟨b,len,cap,rfl⟩
   ·simp only [bN] at hcap; omega
   ·simp only [bZ] at e3
    simp only [bN] at hcap
    exact core hob hes' hro hm (by omega) (by omega) h0 e3 hK
 ·rename_i id g es' off n c
  rw [g0_] at hx
  obtain ⟨rfl,ob,hob,hg,hes',hro,hlen,hK⟩:=h
  subst hg
  obtain ⟨b,len,hm,e3,hcap⟩:=hx.fq
  by_cases h0:n=0
  ·subst h0
   rw [List.replicate_zero,List.append_nil,Nat.add_zero,List.take_append_drop,zE hob] at hK
   exact aj hI (hb (nothing e3)) hK tup
  ·exact core hob hes' hro hm (by omega) (by omega) h0 e3 hK
 ·exact h.elim
theorem xO:∀ {l:List AV} {s:List UInt8},oI l=some s→∃ xs:List Int,l=xs.map (.int .u8)∧s=xs.map fun n=>UInt8.ofNat n.toNat
 | [],s,h=>by simp only [oI,Option.some.injEq] at h; subst h; exact ⟨[],rfl,rfl⟩
 | a :: l,s,h=>by
  unfold oI at h
  split at h
  ·rename_i h1; cases h1
  ·rename_i n r h1
   cases h1
   obtain ⟨s',hs,rfl⟩:=Option.map_eq_some_iff.1 h
   obtain ⟨xs,rfl,rfl⟩:=xO hs
   exact ⟨n :: xs,rfl,rfl⟩
  ·cases h
theorem AA:∀ (xs:List Int),aK (xs.map (AV.int .u8))=xs.map (AV.int .u8)
 | []=>rfl
 | x :: r=>by
  have:=AA r
  simp only [aK] at this ⊢
  simp only [List.map_cons,List.flatMap_cons,this]
  rfl
theorem CI {e:TypeId} (h:Ib P e=true):P.underlying e=some (.int .u8)∧∃ i,P.info? e=some i∧i.size=1∧i.bytes=1:=by
 unfold Ib at h
 split at h
 ·rename_i hu
  split at h
  ·rename_i i hi
   simp only [Bool.and_eq_true,beq_iff_eq] at h
   exact ⟨hu,i,hi,h.1,h.2⟩
  ·cases h
 ·cases h
theorem Rm {s t el:TypeId} {x:Operand} {y:AX} (hI:Inv W O S0 m S σ w) (hE:bq m S w e a.tmps) (ho:o.op=.convert s t x) (hs:P.underlying s=some (.slice el)) (ht:P.underlying t=some .string) (hel:Ib P el=true)
  (hc:ax x=some y) (h:ar (HC P) (.Iu y) e σ K):o.wp P a w (Good W O S0 m S w g0 o a K) Q:=by
 have hx:=aC hE hc
 obtain ⟨hu8,_⟩:=CI hel
 simp only [ar,yN] at h
 obtain ⟨hesl,hes,h⟩:=h
 obtain ⟨l,ad,n,cp,news,⟨bs,hbs,hK⟩,hok,ey,rfl,hnews,had⟩:=jb (es:=1) hI.bu hx hes hesl h
 obtain ⟨xs,rfl,rfl⟩:=xO hbs
 by_cases hl:xs=[]
 ·subst hl
  have hb:(convert s t (.slice ad 0 cp)).run P w=.ok (.string ByteArray.empty) w:=by
   cases ad with
   | none=>exact run_convert_bytes_nil w s el hs hu8 0 cp t ht
   | some ad=>
    rw [run_convert_bytes_string w s t el _ 0 cp hs hu8 ht]
    have hl0:(loadCells ad 0).run P w=.ok (([]:List Int).map (Value.int .u8)).toArray w:=by simp [loadCells,loadCellsFrom]
    exact run_bytesToString w ad 0 cp [] hl0
  exact aj (v:=.string ByteArray.empty) hI (by simp only [List.map_nil,List.length_nil] at ey; simp [execOp,ho,ey,hb]) hK (.pure (.str _))
 ·obtain ⟨b,q,rfl,hcell⟩:=had (by simpa using hl)
  rw [AA] at hnews
  have hb:=run_convert_bytes_arg (P:=P) w s el hs hu8 b q xs.length cp xs rfl (fun j hj=>by
   have hy:(xs.map (AV.int .u8))[j]?=some (.int .u8 xs[j]):=by simp [hj]
   obtain ⟨u,hu,hv⟩:=hnews.get hy
   rw [hcell j u hu,hv.of_int]
   simp [hj]) t ht
  exact aj (v:=.string (strOfNums xs)) hI (by simp only [List.length_map] at ey; simp [execOp,ho,ey,hb]) hK (.pure (.str _))
theorem fv (s:ByteArray):(pC s).length=s.size:=by unfold pC; rw [List.length_map]; rfl
theorem HU (s:ByteArray):aK (pC s)=pC s:=by
 have:pC s=(s.data.toList.map fun b=>(b.toNat:Int)).map (AV.int .u8):=by simp [pC]
 rw [this]; exact AA _
theorem G8 (s:ByteArray):mE 1 (pC s):=fun x hx=>by
 obtain ⟨b,_,rfl⟩:=List.mem_map.1 hx
 exact ⟨rfl,rfl⟩
theorem Q5 {ob:Nat→Option aU} {N C:Nat→Nat} {id:Nat} {s t el:TypeId} {mu:Bool} {x:Operand} {y:AX} (hI:Inv W O S0 m S ⟨ob,N id,C g0⟩ w) (hg0:m g0=none) (hc':∀ g v,m g=some v→g<C (g0+1)) (hgc:g0<C (g0+1)) (hE:bq m S w e a.tmps)
  (ho:o.op=.convert s t x) (hs:P.underlying s=some .string) (ht:P.underlying t=some (.slice el)) (hel:Ib P el=true) (hc:ax x=some y)
  (h:ar (HC P) (.Lw mu el y) e ⟨ob,id,g0⟩ (fun v τ=>K v ⟨τ.ob,N τ.n,C τ.c⟩)):o.wp P a w (Good W O S0 m S w g0 o a K) Q:=by
 have hx:=aC hE hc
 obtain ⟨hu8,_⟩:=CI hel
 simp only [ar] at h
 generalize g0_:y.ev e=G0_ at h
 unfold Oy at h
 split at h
 ·rename_i str
  rw [g0_] at hx
  have hx:=hx.mH
  obtain ⟨hsz,h⟩:=h
  have hr:=Lib.run_convert_string_bytes (P:=P) w s t el str hs ht hu8
  have hrun:(execOp a.eval o).run P w=.ok (.value (.slice (some ⟨w.heap.size,0,none⟩) str.size (grownCap w str.size 0 el))) (Lib.bytesWorld w el str):=by
   simp [execOp,ho,hx,hr]
  have hcge:str.size≤grownCap w str.size 0 el:=grownCap_ge w _ _ _
  have hclt:grownCap w str.size 0 el≤maxLen:=grownCap_le_maxLen w _ _ _ (by simp [maxLen]; omega)
  have hgrow:w.grownBy (Lib.bytesWorld w el str) none:=by
   refine ⟨?_,?_,?_,?_,?_⟩
   ·simp [Lib.bytesWorld,World.freeze]; rfl
   ·simp [Lib.bytesWorld,World.freeze]
   ·simp [Lib.bytesWorld,World.freeze]; rfl
   ·rw [Lib.bytesWorld_size]; omega
   ·intro k hk _; exact Lib.bytesWorld_at_old w el str k hk
  have hbs:(Lib.bytesCells w el str).size=grownCap w str.size 0 el:=by
   simp only [Lib.bytesCells,Array.size_append,Array.size_map,Array.size_replicate]
   have:str.data.size=str.size:=rfl
   omega
  have hcells:∀ (m:Mp) (S:Nat→Prop) (w':World),bR m S w' (pC str) (str.data.toList.map fun b=>Value.int .u8 b.toNat):=fun m S w'=>
   ⟨by simp [pC],fun j y u hy hu=>by
    simp only [pC,List.getElem?_map,Option.map_eq_some_iff] at hy hu
    obtain ⟨b,hb,rfl⟩:=hy
    obtain ⟨b',hb',rfl⟩:=hu
    rw [hb] at hb'; cases hb'
    exact .pure (.int _ _)⟩
  have htake:(Lib.bytesCells w el str).toList.take str.size=str.data.toList.map fun b=>Value.int .u8 b.toNat:=by
   simp only [Lib.bytesCells,Array.toList_append,Array.toList_map]
   rw [List.take_append_of_le_length (by simp),List.take_of_length_le (by simp)]
  cases mu with
  | true=>
   simp only [if_true] at h
   have hown:jw (Lib.bytesWorld w el str) el 1 false (.slice (some ⟨w.heap.size,0,none⟩) str.size (grownCap w str.size 0 el)) (pC str).length (str.data.toList.map fun b=>Value.int .u8 b.toNat):=by
    rw [fv]
    refine ⟨by simp,.inr ⟨w.heap.size,_,_,Lib.bytesCells w el str,_,rfl,Lib.bytesWorld_at_new w el str,hcge,hclt,by rw [hbs]; omega,by rw [Nat.mul_one]; exact htake,fun k hk=>by omega,fun h=>by cases h⟩⟩
   have hI':=hI.k8 (row:=none) (xs:=str.data.toList.map fun b=>Value.int .u8 b.toNat) id 1 el false (pC str) _ (N (id+1)) g0 (C (g0+1)) hg0 hc' hgc hgrow (by omega) (G8 str) hown (by rw [HU]; exact hcells _ _ _) (fun b hb=>by cases hb) (fun b hb=>.inr (by simp [Value.ownBlock] at hb; omega))
   have hX:Ext m S w (bd m g0 (some (.slice (some ⟨w.heap.size,0,none⟩) str.size (grownCap w str.size 0 el)))) S (Lib.bytesWorld w el str):=⟨ez hg0 _,fun _ h=>h,fun k hk=>hgrow.block k (hI.bu.lt k hk) (by simp)⟩
   refine bg hrun h hI' hX ?_ (fun g hg=>aa _ _ _ _ hg)
   have:=VR.sl (m:=bd m g0 (some (Value.slice (some ⟨w.heap.size,0,none⟩) str.size (grownCap w str.size 0 el)))) (S:=S) (w:=Lib.bytesWorld w el str) (id:=id) (es:=1) (off:=0) (n:=str.size) (az m g0 _) (by simpa [bN] using hcge) rfl
   simpa [bZ] using this
  | false=>
   simp only [Bool.false_eq_true,if_false] at h
   -- first as an object that nobody names,then published
   have hsub:∀ b,S b→(Lib.bytesWorld w el str).heap[b]?=w.heap[b]?:=fun b hb=>Lib.bytesWorld_at_old w el str b (hI.bu.lt b hb)
   have hX:Ext m S w m S (Lib.bytesWorld w el str):=⟨Mp.le_refl m,fun _ h=>h,hsub⟩
   have hIa:Inv W O S0 m S ⟨ob,N id,C g0⟩ (Lib.bytesWorld w el str):=by
    refine ⟨⟨hI.bu.fresh,fun k o' ho'=>?_,hI.bu.iB,fun b hb=>by have:=hI.bu.lt b hb; rw [Lib.bytesWorld_size]; omega⟩,⟨hgrow.os.trans hI.fr.os,hgrow.tape.trans hI.fr.tape,hgrow.output.trans hI.fr.output,Nat.le_trans hI.fr.size hgrow.size,fun b hb hO=>?_,hI.fr.own,hI.fr.sub⟩⟩
    ·obtain ⟨v,q1,q2,q3⟩:=hI.bu.obj k o' ho'
     exact ⟨v,q1,q2.ext hX (fun b hb=>Lib.bytesWorld_at_old w el str b (bt q2 hb)),q3⟩
    ·have:=hI.fr.size
     rw [Lib.bytesWorld_at_old w el str b (by omega)]; exact hI.fr.block b hb hO
   have hIb:=hIa.yS w.heap.size hI.fr.size (by rw [Lib.bytesWorld_size]; omega) (fun k ob v hk hm hb=>by
    obtain ⟨v',h8,h9,_⟩:=hI.bu.obj k ob hk
    rw [hm] at h8; obtain rfl:=Option.some.inj h8
    have:=bt h9 hb
    omega)
   have hXb:=hX.trans (iZ m S (Lib.bytesWorld w el str) w.heap.size)
   refine bg hrun h hIb hXb ?_ (fun _ _=>rfl)
   by_cases h0:str.size=0
   ·have:pC str=[]:=List.eq_nil_of_length_eq_zero (by rw [fv,h0])
    rw [this,h0]; exact .pure (.bP _ _ _)
   ·have key:VP (fun x=>S x∨x=w.heap.size) (Lib.bytesWorld w el str) (.list 1 (pC str)) (.slice (some ⟨w.heap.size,0,none⟩) (pC str).length (grownCap w str.size 0 el)):=by
     refine .list (fun i _=>.int .u8 (str.data.toList.getD i 0).toNat) (fun hh=>by have:=fv str; rw [hh] at this; simp at this; omega) (by rw [fv]; exact hcge) ⟨.inr rfl,.LD (by simpa using Lib.bytesWorld_cell w el str 0 (by omega))⟩ (fun i x hx=>G8 str x (List.mem_of_getElem? hx)) (fun i j hi hj=>?_) (fun i x j y hx hy=>?_)
     ·rw [fv] at hi
      obtain rfl:j=0:=by omega
      have:=Lib.bytesWorld_cell w el str i hi
      simpa using this
     ·simp only [pC,List.getElem?_map,Option.map_eq_some_iff] at hx
      obtain ⟨b,hb,rfl⟩:=hx
      simp only [AV.cells] at hy
      obtain ⟨hj0,hy0⟩:=List.getElem?_eq_some_iff.1 hy
      simp at hj0; subst hj0; simp at hy0; subst hy0
      rw [List.getD_eq_getElem?_getD,hb]; exact .int _ _
    rw [fv] at key
    exact .pure key
 ·exact h.elim
end
end Go.Ab
