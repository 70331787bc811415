/- OWN WORK, put together by tools/asm.py, seat.py, mini.py. -/
import Derived.Test.YtcpckngdfjmbgaaGreatBaseI
namespace Go.Ab
open Go.RowKit
section
variable {P : Program} {W : World} {O S0 : Nat → Prop} {m : Mp} {S : Nat → Prop} {σ : St} {w : World} {e : Nat → AV} {a : Act} {o : Oper} {K : AV → St → Prop} {Q : Exit → Act → World → Prop} {g0 : Nat}
theorem ri (hE:bq m S w e a.tmps) {x:Option Operand} {y:Option AX} (h:CU x=some y) :
  (x=none∧y=none)∨∃ x' y',x=some x'∧y=some y'∧VR m S w (y'.ev e) (a.eval x'):=by
 cases x with
 | none=>simp only [CU,Option.some.injEq] at h; exact .inl ⟨rfl,h.symm⟩
 | some x'=>
  simp only [CU] at h
  cases hx:ax x' with
  | none=>simp [hx] at h
  | some y'=>
   simp only [hx,Option.map_some,Option.some.injEq] at h
   exact .inr ⟨x',y',rfl,h.symm,aC hE hx⟩
theorem run_sliceBound {v:Value} {k:IntKind} {i:Int} {y:Nat} {code:BoundsCode} (hv:v=.int k i) (h0:0≤i) (h1:i≤y):(Instr.sliceBound v y code).run P w=.ok i.toNat w:=by
 subst hv
 simp [Instr.sliceBound,asIntOf,h0,h1]
theorem oi {isS:Bool} {n cap:Nat} (hn:n≤cap) {lo hi:Option Operand} {l h:Option AX} (hE:bq m S w e a.tmps) (h1:CU lo=some l) (h2:CU hi=some h) {Kn:Nat→Nat→Prop}
  (hK:oJ n (l.map fun y=>y.ev e) (h.map fun y=>y.ev e) Kn) :
  ∃ p q,(Instr.sliceBounds isS n cap (lo.map a.eval) (hi.map a.eval) none).run P w=.ok (p,q,cap) w∧p≤q∧q≤n∧Kn p q:=by
 rcases ri hE h1 with ⟨rfl,rfl⟩ | ⟨x1,y1,rfl,rfl,hv1⟩ <;> rcases ri hE h2 with ⟨rfl,rfl⟩ | ⟨x2,y2,rfl,rfl,hv2⟩
 ·exact ⟨0,n,by simp [Instr.sliceBounds],Nat.zero_le _,Nat.le_refl _,hK⟩
 ·simp only [oJ,Option.map_none,Option.map_some] at hK
  split at hK
  ·rename_i hh; cases hh
  ·rename_i hh; cases hh
  ·rename_i k q _ hh
   simp only [Option.some.injEq] at hh
   rw [hh] at hv2
   have hv2:=hv2.of_int
   obtain ⟨h3,h4,h5⟩:=hK
   refine ⟨0,q.toNat,?_,Nat.zero_le _,by omega,h5⟩
   simp [Instr.sliceBounds,run_sliceBound (P:=P) (w:=w) hv2 h3 (show q≤(cap:Int) by omega)]
  ·rename_i hh _; cases hh
  ·exact hK.elim
 ·simp only [oJ,Option.map_none,Option.map_some] at hK
  split at hK
  ·rename_i hh _; cases hh
  ·rename_i k q hh _
   simp only [Option.some.injEq] at hh
   rw [hh] at hv1
   have hv1:=hv1.of_int
   obtain ⟨h3,h4,h5⟩:=hK
   refine ⟨q.toNat,n,?_,by omega,Nat.le_refl _,h5⟩
   simp [Instr.sliceBounds,run_sliceBound (P:=P) (w:=w) hv1 h3 h4]
  ·rename_i hh _; cases hh
  ·rename_i hh; cases hh
  ·exact hK.elim
 ·simp only [oJ,Option.map_some] at hK
  split at hK
  ·rename_i hh _; cases hh
  ·rename_i hh; cases hh
  ·rename_i hh _; cases hh
  ·rename_i k1 q1 k2 q2 hh1 hh2
   simp only [Option.some.injEq] at hh1 hh2
   rw [hh1] at hv1
   rw [hh2] at hv2
   have hv1:=hv1.of_int
   have hv2:=hv2.of_int
   obtain ⟨h3,h4,h5,h6⟩:=hK
   refine ⟨q1.toNat,q2.toNat,?_,by omega,by omega,h6⟩
   simp [Instr.sliceBounds,run_sliceBound (P:=P) (w:=w) hv2 (show 0≤q2 by omega) (show q2≤(cap:Int) by omega),run_sliceBound (P:=P) (w:=w) (y:=q2.toNat) hv1 h3 (by omega)]
  ·exact hK.elim
theorem I6 {isS:Bool} {n cap:Nat} (hn:n≤cap) {lo hi:Option Operand} {l h:Option AX} (hE:bq m S w e a.tmps) (h1:CU lo=some l) (h2:CU hi=some h) {Kn:Nat→Nat→Prop}
  (hK:w7 n cap (l.map fun y=>y.ev e) (h.map fun y=>y.ev e) Kn) :
  ∃ p q,(Instr.sliceBounds isS n cap (lo.map a.eval) (hi.map a.eval) none).run P w=.ok (p,q,cap) w∧p≤q∧q≤cap∧Kn p q:=by
 rcases ri hE h1 with ⟨rfl,rfl⟩ | ⟨x1,y1,rfl,rfl,hv1⟩ <;> rcases ri hE h2 with ⟨rfl,rfl⟩ | ⟨x2,y2,rfl,rfl,hv2⟩
 ·exact ⟨0,n,by simp [Instr.sliceBounds],Nat.zero_le _,hn,hK⟩
 ·simp only [w7,Option.map_none,Option.map_some] at hK
  split at hK
  ·rename_i hh; cases hh
  ·rename_i hh; cases hh
  ·rename_i k q _ hh
   simp only [Option.some.injEq] at hh
   rw [hh] at hv2
   have hv2:=hv2.of_int
   obtain ⟨h3,h4,h5⟩:=hK
   refine ⟨0,q.toNat,?_,Nat.zero_le _,by omega,h5⟩
   simp [Instr.sliceBounds,run_sliceBound (P:=P) (w:=w) hv2 h3 (show q≤(cap:Int) by omega)]
  ·rename_i hh _; cases hh
  ·exact hK.elim
 ·simp only [w7,Option.map_none,Option.map_some] at hK
  split at hK
  ·rename_i hh _; cases hh
  ·rename_i k q hh _
   simp only [Option.some.injEq] at hh
   rw [hh] at hv1
   have hv1:=hv1.of_int
   obtain ⟨h3,h4,h5⟩:=hK
   refine ⟨q.toNat,n,?_,by omega,hn,h5⟩
   simp [Instr.sliceBounds,run_sliceBound (P:=P) (w:=w) hv1 h3 h4]
  ·rename_i hh _; cases hh
  ·rename_i hh; cases hh
  ·exact hK.elim
 ·simp only [w7,Option.map_some] at hK
  split at hK
  ·rename_i hh _; cases hh
  ·rename_i hh; cases hh
  ·rename_i hh _; cases hh
  ·rename_i k1 q1 k2 q2 hh1 hh2
   simp only [Option.some.injEq] at hh1 hh2
   rw [hh1] at hv1
   rw [hh2] at hv2
   have hv1:=hv1.of_int
   have hv2:=hv2.of_int
   obtain ⟨h3,h4,h5,h6⟩:=hK
   refine ⟨q1.toNat,q2.toNat,?_,by omega,by omega,h6⟩
   simp [Instr.sliceBounds,run_sliceBound (P:=P) (w:=w) hv2 (show 0≤q2 by omega) (show q2≤(cap:Int) by omega),run_sliceBound (P:=P) (w:=w) (y:=q2.toNat) hv1 h3 (by omega)]
  ·exact hK.elim
theorem Oi {t:TypeId} {x:Operand} {y:AX} {lo hi:Option Operand} {l h:Option AX} (hI:Inv W O S0 m S σ w) (hE:bq m S w e a.tmps) (ho:o.op=.slice t x lo hi none) (hu:P.underlying t=some .string)
  (hc:ax x=some y) (h1:CU lo=some l) (h2:CU hi=some h) (hr:ar (HC P) (.vQ y l h) e σ K):o.wp P a w (Good W O S0 m S w g0 o a K) Q:=by
 have hx:=aC hE hc
 simp only [ar,tN,DV] at hr
 generalize g0_:y.ev e=G0_ at hr
 unfold tM at hr
 split at hr
 ·rename_i s
  have e1:=g0_
  rw [e1] at hx
  have hx:=hx.mH
  obtain ⟨p,q,h3,_,_,hK⟩:=oi (P:=P) (w:=w) (isS:=false) (Nat.le_refl s.size) hE h1 h2 hr
  refine aj (v:=.string (s.extract p q)) hI ?_ hK (.pure (.str _))
  simp [execOp,ho,Instr.sliceAt,run_underlying hu,Instr.slice,hx,h3]
 ·exact hr.elim
theorem Q4 {t el:TypeId} {ei:TypeInfo} {x:Operand} {y:AX} {lo hi:Option Operand} {l h:Option AX} (hI:Inv W O S0 m S σ w) (hE:bq m S w e a.tmps) (ho:o.op=.slice t x lo hi none) (hu:P.underlying t=some (.slice el))
  (hi':P.info? el=some ei) (hc:ax x=some y) (h1:CU lo=some l) (h2:CU hi=some h) (hr:ar (HC P) (.rm ei.size y l h) e σ K):o.wp P a w (Good W O S0 m S w g0 o a K) Q:=by
 have hx:=aC hE hc
 have hb:∀ {ad:Option Addr} {n cap p q:Nat},a.eval x=.slice ad n cap→(Instr.sliceBounds true n cap (lo.map a.eval) (hi.map a.eval) none).run P w=.ok (p,q,cap) w→
   (execOp a.eval o).run P w=.ok (.value (.slice (if cap=p then ad else ad.map (·.add (p * ei.size))) (q-p) (cap-p))) w:=fun {ad n cap p q} hv hs=>by
  simp [execOp,ho,Instr.sliceAt,run_underlying hu,Instr.slice,hv,hs,aP hi']
 simp only [ar,ji,DV] at hr
 generalize g0_:y.ev e=G0_ at hr
 unfold eK at hr
 split at hr
 ·have e1:=g0_
  rw [e1] at hx
  have hx:=hx.of_nil
  obtain ⟨p,q,h3,h4,h5,hK⟩:=oi (P:=P) (w:=w) (isS:=true) (Nat.le_refl 0) hE h1 h2 hr
  obtain rfl:q=0:=by omega
  obtain rfl:p=0:=by omega
  exact aj (hI:=hI) (hb hx h3) hK (.pure (by simpa using VP.nil))
 ·rename_i es ls
  have e1:=g0_
  rw [e1] at hx
  obtain ⟨rfl,hr⟩:=hr
  obtain ⟨ad,cap,e3,hcap,hh⟩:=hx.iK
  obtain ⟨p,q,h3,h4,h5,hK⟩:=oi (P:=P) (w:=w) (isS:=true) hcap hE h1 h2 hr
  refine aj (hI:=hI) (hb e3 h3) hK ?_
  by_cases hpq:p=q
  ·subst hpq
   rw [show (ls.take p).drop p=[] by simp,Nat.sub_self]
   exact .pure (.bP _ _ _)
  ·have hl0:ls≠[]:=fun hh=>by subst hh; simp at h5; omega
   obtain ⟨b,off,rfl,f,hS,hc',hw,hv⟩:=hh hl0
   have hlen:((ls.take q).drop p).length=q-p:=by simp; omega
   have hget:∀ i x,((ls.take q).drop p)[i]?=some x→ls[p+i]?=some x:=fun i x hx=>by
    rw [List.getElem?_drop,List.getElem?_take] at hx
    split at hx
    ·exact hx
    ·cases hx
   rw [if_neg (by omega)]
   simp only [Option.map_some,Addr.add_lit]
   rw [←hlen]
   refine .pure (.list (fun i j=>f (p+i) j) (fun hh=>by rw [hh] at hlen; simp at hlen; omega) (by omega) hS (fun i x hx=>hc' _ x (hget i x hx)) (fun i j hi hj=>?_) (fun i x j y hx hy=>hv _ x j y (hget i x hx) hy))
   rw [←hw (p+i) j (by omega) hj,Nat.add_mul]
   congr 2
   omega
 ·rename_i id g es off n
  have e1:=g0_
  rw [e1] at hx
  obtain ⟨rfl,⟨ob,hob,hg⟩,hr⟩:=hr
  obtain ⟨u,hm,_,e3,hcap,hcase⟩:=zu hI.bu hx hob hg
  rcases hcase with rfl | ⟨b,len,cap,rfl⟩
  ·simp only [bN] at hcap
   obtain rfl:n=0:=by omega
   simp only [bZ] at e3
   obtain ⟨p,q,h3,h4,h5,hK⟩:=oi (P:=P) (w:=w) (isS:=true) (Nat.le_refl 0) hE h1 h2 hr
   obtain rfl:q=0:=by omega
   obtain rfl:p=0:=by omega
   exact aj (hI:=hI) (hb e3 h3) (hK.1 rfl) (.pure (.bP _ _ _))
  ·simp only [bN] at hcap
   simp only [bZ] at e3
   obtain ⟨p,q,h3,h4,h5,hK⟩:=oi (P:=P) (w:=w) (isS:=true) (show n≤cap-off by omega) hE h1 h2 hr
   by_cases hpq:p=q
   ·subst hpq
    refine aj (hI:=hI) (hb e3 h3) (hK.1 rfl) ?_
    rw [Nat.sub_self]
    exact .pure (.bP _ _ _)
   ·refine aj (hI:=hI) (hb e3 h3) (hK.2 (by omega)) ?_
    rw [if_neg (by omega)]
    simp only [Option.map_some,Addr.add_lit]
    have:=VR.sl (S:=S) (w:=w) (id:=id) (es:=ei.size) (off:=off+p) (n:=q-p) hm (by simp only [bN]; omega) rfl
    simp only [bZ,Nat.add_mul] at this
    rw [show cap-off-p=cap-(off+p) by omega]
    exact this
 ·rename_i id g es off n c
  rw [g0_] at hx
  obtain ⟨rfl,hnc,hr⟩:=hr
  obtain ⟨b,len,hm,e3,_⟩:=hx.fq
  obtain ⟨p,q,h3,h4,h5,hK⟩:=I6 (P:=P) (w:=w) (isS:=true) (show n≤c-off by omega) hE h1 h2 hr
  by_cases hpq:p=c-off
  ·refine aj (hI:=hI) (hb e3 h3) (hK.1 hpq) ?_
   rw [show q-p=0 by omega]
   exact .pure (.bP _ _ _)
  ·refine aj (hI:=hI) (hb e3 h3) (hK.2 (by omega)) ?_
   rw [if_neg (by omega)]
   simp only [Option.map_some,Addr.add_lit]
   have:=VR.fH (S:=S) (w:=w) (id:=id) (es:=ei.size) (off:=off+p) (n:=q-p) hm (by omega)
   simp only [Nat.add_mul] at this
   rw [show c-off-p=c-(off+p) by omega]
   exact this
 ·exact hr.elim
theorem Oj {t arr el:TypeId} {ei:TypeInfo} {n:Nat} {x:Operand} {y:AX} {lo hi:Option Operand} {l h:Option AX} (hI:Inv W O S0 m S σ w) (hE:bq m S w e a.tmps) (ho:o.op=.slice t x lo hi none) (hu:P.underlying t=some (.pointer arr))
  (hu2:P.underlying arr=some (.array n el)) (hi':P.info? el=some ei) (hc:ax x=some y) (h1:CU lo=some l) (h2:CU hi=some h) (hr:ar (HC P) (.Da ei.size n y l h) e σ K):o.wp P a w (Good W O S0 m S w g0 o a K) Q:=by
 have hx:=aC hE hc
 simp only [ar,zk,DV] at hr
 generalize g0_:y.ev e=G0_ at hr
 split at hr
 ·rename_i id g es i off
  rw [g0_] at hx
  obtain ⟨b,len,cap,hm,e3⟩:=hx.wo
  obtain ⟨p,q,h3,h4,h5,hK⟩:=oi (P:=P) (w:=w) (isS:=false) (Nat.le_refl n) hE h1 h2 hr
  have hrun:(execOp a.eval o).run P w=.ok (.value (.slice (some (if n=p then ⟨b,i * es+off,none⟩ else ⟨b,i * es+off+p * ei.size,none⟩)) (q-p) (n-p))) w:=by
   simp [execOp,ho,Instr.sliceAt,run_underlying hu,Instr.slice,e3,asAddr,run_underlying hu2,h3,aP hi',Addr.add_lit]
  by_cases hpn:p=n
  ·subst hpn
   refine aj hI hrun (hK.1 rfl) ?_
   rw [show q-p=0 by omega]
   exact .pure (.bP _ _ _)
  ·refine aj hI hrun (hK.2 (by omega)) ?_
   rw [if_neg (by omega)]
   have:=VR.zq (S:=S) (w:=w) (id:=id) (es:=es) (i:=i) (off:=off+p * ei.size) (ee:=ei.size) (n:=q-p) (k:=n-p) hm (by omega)
   rw [←Nat.add_assoc] at this
   exact this
 ·exact hr.elim
theorem Lq {t el:TypeId} {ei:TypeInfo} {n:Nat} {x:Operand} {y:AX} {lo hi:Option Operand} {l h:Option AX} (hI:Inv W O S0 m S σ w) (hE:bq m S w e a.tmps) (ho:o.op=.slice t x lo hi none)
  (hu:P.underlying t=some (.array n el)) (hi':P.info? el=some ei) (hc:ax x=some y) (h1:CU lo=some l) (h2:CU hi=some h) (hr:ar (HC P) (.Da ei.size n y l h) e σ K):o.wp P a w (Good W O S0 m S w g0 o a K) Q:=by
 have hx:=aC hE hc
 simp only [ar,zk,DV] at hr
 generalize g0_:y.ev e=G0_ at hr
 split at hr
 ·rename_i id g es i off
  rw [g0_] at hx
  obtain ⟨b,len,cap,hm,e3⟩:=hx.wo
  obtain ⟨p,q,h3,h4,h5,hK⟩:=oi (P:=P) (w:=w) (isS:=false) (Nat.le_refl n) hE h1 h2 hr
  have hrun:(execOp a.eval o).run P w=.ok (.value (.slice (some (if n=p then ⟨b,i * es+off,none⟩ else ⟨b,i * es+off+p * ei.size,none⟩)) (q-p) (n-p))) w:=by
   simp [execOp,ho,Instr.sliceAt,run_underlying hu,e3,Instr.sureAddr,h3,aP hi',Addr.add_lit]
  by_cases hpn:p=n
  ·subst hpn
   refine aj hI hrun (hK.1 rfl) ?_
   rw [show q-p=0 by omega]
   exact .pure (.bP _ _ _)
  ·refine aj hI hrun (hK.2 (by omega)) ?_
   rw [if_neg (by omega)]
   have:=VR.zq (S:=S) (w:=w) (id:=id) (es:=es) (i:=i) (off:=off+p * ei.size) (ee:=ei.size) (n:=q-p) (k:=n-p) hm (by omega)
   rw [←Nat.add_assoc] at this
   exact this
 ·exact hr.elim
end
end Go.Ab
