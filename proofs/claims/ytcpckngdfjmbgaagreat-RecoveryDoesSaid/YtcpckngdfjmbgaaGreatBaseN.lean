/- OWN WORK, put together by tools/asm.py, seat.py, mini.py. -/
import Derived.Test.YtcpckngdfjmbgaaGreatBaseM
import Derived.IntWalk
namespace Go.Ab
section
variable {P : Program} {H : eJ} {e : Nat → AV} {σ : St} {C : AV → St → Prop} {k : (Nat → AV) → St → Prop} {Q : lQ}
@[go_sem] theorem Vf (s:Nat):AX.ev e (.t s)=e s:=(rfl)
@[go_sem] theorem Vg (v:AV):AX.ev e (.c v)=v:=(rfl)
@[go_sem] theorem PM:qp e []=[]:=(rfl)
@[go_sem] theorem N4 (x:AX) (l:List AX):qp e (x :: l)=x.ev e :: qp e l:=(rfl)
@[go_sem] theorem N7:DV e none=none:=(rfl)
@[go_sem] theorem N6 (x:AX):DV e (some x)=some (x.ev e):=(rfl)
@[go_sem] theorem PN:KL e []=[]:=(rfl)
@[go_sem] theorem N5 (a b:Nat) (x:AX) (l:List (Nat × Nat × AX)):KL e ((a,b,x) :: l)=(a,b,x.ev e) :: KL e l:=(rfl)
@[go_sem] theorem T8 {α:Type} (f:Nat→α) (i j:Nat) (x:α):bd f i x j=if j=i then x else f j:=(rfl)
def ma:Nat→AV:=fun _=>.bC
@[go_sem] theorem QO:lM []=ma:=by funext j; simp [lM,ma]
@[go_sem] theorem QN (a:AV):lM [a]=bd ma 0 a:=by funext j; match j with | 0=>rfl | j+1=>simp [lM,ma,bd]
@[go_sem] theorem QM (a b:AV):lM [a,b]=bd (bd ma 1 b) 0 a:=by funext j; match j with | 0=>rfl | 1=>rfl | j+2=>simp [lM,ma,bd]
@[go_sem] theorem QL (a b c:AV):lM [a,b,c]=bd (bd (bd ma 2 c) 1 b) 0 a:=by funext j; match j with | 0=>rfl | 1=>rfl | 2=>rfl | j+3=>simp [lM,ma,bd]
@[go_sem] theorem QK (a b c d:AV):lM [a,b,c,d]=bd (bd (bd (bd ma 3 d) 2 c) 1 b) 0 a:=by funext j; match j with | 0=>rfl | 1=>rfl | 2=>rfl | 3=>rfl | j+4=>simp [lM,ma,bd]
@[go_sem] theorem QJ (a b c d f:AV):lM [a,b,c,d,f]=bd (bd (bd (bd (bd ma 4 f) 3 d) 2 c) 1 b) 0 a:=by funext j; match j with | 0=>rfl | 1=>rfl | 2=>rfl | 3=>rfl | 4=>rfl | j+5=>simp [lM,ma,bd]
@[go_sem] theorem QI (a b c d f g:AV):lM [a,b,c,d,f,g]=bd (bd (bd (bd (bd (bd ma 5 g) 4 f) 3 d) 2 c) 1 b) 0 a:=by funext j; match j with | 0=>rfl | 1=>rfl | 2=>rfl | 3=>rfl | 4=>rfl | 5=>rfl | j+6=>simp [lM,ma,bd]
@[go_sem] theorem S3 (d:Nat) (v:AV):bL e (some d) v=bd e d v:=(rfl)
@[go_sem] theorem Mw (v:AV):bL e none v=e:=(rfl)
@[go_sem] theorem Td (d:Option Nat) (v:AV):G5 k e d v σ=k (bL e d v) σ:=(rfl)
@[go_sem] theorem Nv:runs H [] k e σ=k e σ:=(rfl)
@[go_sem] theorem Mv (d:Option Nat) (op:aO) (af:List Nat) (r:List aT):runs H (⟨d,op,none,af⟩ :: r) k e σ=ar H op e σ (G5 (runs H r k) e d):=(rfl)
@[go_sem] theorem KR (d:Option Nat) (op:aO) (af:List Nat) (r:List aT) (s:Nat) (w:Bool) :
  runs H (⟨d,op,some (s,w),af⟩ :: r) k e σ=tg s w (G4 H op d (runs H r k)) (tF d (runs H r k)) (e s) e σ:=rfl
@[go_sem] theorem Qz (op:aO) (d:Option Nat):G4 H op d k e σ=ar H op e σ (G5 k e d):=(rfl)
@[go_sem] theorem Qy (d:Option Nat):tF d k e σ=k (bL e d (.tuple [])) σ:=(rfl)
section
variable (s : Nat) (A B : (Nat → AV) → St → Prop)
@[go_sem] theorem S9 (w:Bool):tg s w A B (.tuple []) e σ=B e σ:=by simp [tg]
@[go_sem] theorem Sp:tg s true A B (.bool true) e σ=A e σ:=by simp [tg]
@[go_sem] theorem Ss:tg s false A B (.bool false) e σ=A e σ:=by simp [tg]
@[go_sem] theorem Sq:tg s true A B (.bool false) e σ=B e σ:=by simp [tg]
@[go_sem] theorem Sr:tg s false A B (.bool true) e σ=B e σ:=by simp [tg]
theorem Fh {s:Nat} {b w:Bool} {A B:(Nat→AV)→St→Prop} (h:e s=.bool b) (hA:b=w→A (bd e s (.bool w)) σ) (hB:b=(!w)→B (bd e s (.bool !w)) σ):tg s w A B (.bool b) e σ:=by
 have key:∀ {c:Bool},b=c→bd e s (.bool c)=e:=fun {c} hc=>by
  funext j
  by_cases hj:j=s
  ·subst hj; rw [az,h,hc]
  ·rw [aa _ _ _ _ hj]
 exact ⟨fun hb=>by have:=hA hb; rwa [key hb] at this,fun hb=>by have:=hB hb; rwa [key hb] at this⟩
end
theorem LX {s:Nat} {b:Bool} {A B:(Nat→AV)→St→Prop} (h:e s=.bool b) (hA:b=true→A (bd e s (.bool true)) σ) (hB:b=false→B (bd e s (.bool false)) σ):tg s true A B (.bool b) e σ:=Fh h hA hB
theorem RC {s:Nat} {b:Bool} {A B:(Nat→AV)→St→Prop} (h:e s=.bool b) (hB:b=true→B (bd e s (.bool true)) σ) (hA:b=false→A (bd e s (.bool false)) σ):tg s false A B (.bool b) e σ:=Fh h hA hB
theorem bB {s:Nat} {p:Prop} [Decidable p] {A B:(Nat→AV)→St→Prop} (h:e s=.bool (decide p)) (hA:p→A (bd e s (.bool true)) σ) (hB:¬p→B (bd e s (.bool false)) σ):tg s true A B (.bool (decide p)) e σ:=
 LX h (fun h=>hA (of_decide_eq_true h)) (fun h=>hB (of_decide_eq_false h))
theorem bF {s:Nat} {p:Prop} [Decidable p] {A B:(Nat→AV)→St→Prop} (h:e s=.bool (decide p)) (hB:p→B (bd e s (.bool true)) σ) (hA:¬p→A (bd e s (.bool false)) σ):tg s false A B (.bool (decide p)) e σ:=
 RC h (fun h=>hB (of_decide_eq_true h)) (fun h=>hA (of_decide_eq_false h))
theorem iY {s:Nat} {p:Prop} [Decidable p] {A B:(Nat→AV)→St→Prop} (h:e s=.bool (!decide p)) (hB:¬p→B (bd e s (.bool true)) σ) (hA:p→A (bd e s (.bool false)) σ):tg s false A B (.bool (!decide p)) e σ:=
 RC h (fun h=>hB (by simpa using h)) (fun h=>hA (by simpa using h))
@[go_sem] theorem Ub (a b:ay):n6 H (.seq a b) Q e σ=n6 H a (Ci (n6 H b Q) Q) e σ:=(rfl)
@[go_sem] theorem Nu:Ci k Q .lJ e σ=k e σ:=(rfl)
@[go_sem] theorem Nt:Ci k Q .ret e σ=Q .ret e σ:=(rfl)
@[go_sem] theorem Mu (i:Nat):Ci k Q (.exit i) e σ=Q (.exit i) e σ:=(rfl)
@[go_sem] theorem Mt:Ci k Q .lJ=k:=(rfl)
@[go_sem] theorem Ld (id:Nat):jx id Q .lJ e σ=Q .lJ e σ:=(rfl)
@[go_sem] theorem Lc (id:Nat):jx id Q .ret e σ=Q .ret e σ:=(rfl)
@[go_sem] theorem KG (id i:Nat):jx id Q (.exit i) e σ=if i=id then Q .lJ e σ else Q (.exit i) e σ:=(rfl)
@[go_sem] theorem MD (n r:Nat) (I:Nat→(Nat→AV)→St→Prop):sP n r I Q .lJ e σ=∃ k',k' < r∧∃ nt,n≤nt∧I k' e (σ.aD nt):=(rfl)
@[go_sem] theorem KU (n r i:Nat) (I:Nat→(Nat→AV)→St→Prop):sP n r I Q (.exit i) e σ=Q (.exit i) e σ:=(rfl)
def UI (nn n:Nat) (J:Nat→(Nat→AV)→St→Prop) (i:Nat) (e:Nat→AV) (σ:St):Prop:=σ.n=nn∧∃ r,r≤n∧i=n-r∧J r e σ
def SP (nn n r:Nat) (J:Nat→(Nat→AV)→St→Prop) (Q:lQ):lQ:=sP nn (n-r) (UI nn n J) Q
theorem bl {nn n r:Nat} {J:Nat→(Nat→AV)→St→Prop} (h:r<n) (hJ:J (r+1) e (σ.aD nn)):SP nn n r J Q .lJ e σ:=⟨n-(r+1),by omega,nn,Nat.le_refl _,rfl,r+1,h,rfl,hJ⟩
@[go_sem] theorem Po (nn n r:Nat) (J:Nat→(Nat→AV)→St→Prop):SP nn n r J Q .ret e σ=Q .ret e σ:=(rfl)
@[go_sem] theorem No (nn n r i:Nat) (J:Nat→(Nat→AV)→St→Prop):SP nn n r J Q (.exit i) e σ=Q (.exit i) e σ:=(rfl)
@[go_sem] theorem Qn (ops:List aT):n6 H (.region ops none) Q e σ=runs H ops (Q .lJ) e σ:=by simp [n6,OD]
@[go_sem] theorem Ps (ops:List aT) (k:Nat):n6 H (.region ops (some k)) Q e σ=fY H σ.n σ.c k ops 0 (Q .lJ) [] [] e σ:=by simp [n6,OD]
section
variable {n0 c0 k0 p n c : Nat} {R V : List (Nat × Nat)} {af : List Nat} {kk : List (Nat × Nat) → List (Nat × Nat) → AV → St → Prop} {kd : List (Nat × Nat) → List (Nat × Nat) → (Nat → AV) → St → Prop} {ob : Nat → Option aU}
@[go_sem] theorem MR:fY H n0 c0 k0 [] p k R V e σ=k e ⟨σ.ob,n0+k0,c0+k0⟩:=(rfl)
@[go_sem] theorem K5 (d:Option Nat) (op:aO) (r:List aT):fY H n0 c0 k0 (⟨d,op,none,af⟩ :: r) p k R V e σ=tG H op af R V p (n0+p) (c0+p) (C3 (fY H n0 c0 k0 r (p+1) k) e d) e σ.ob:=(rfl)
@[go_sem] theorem KF (d:Option Nat) (op:aO) (r:List aT) (s:Nat) (w:Bool) :
  fY H n0 c0 k0 (⟨d,op,some (s,w),af⟩ :: r) p k R V e σ=tg s w (EA H op d af R V p (n0+p) (c0+p) (fY H n0 c0 k0 r (p+1) k)) (tF d (fY H n0 c0 k0 r (p+1) k R V)) (e s) e σ:=rfl
@[go_sem] theorem PV (op:aO) (d:Option Nat):EA H op d af R V p n c kd e σ=tG H op af R V p n c (C3 kd e d) e σ.ob:=(rfl)
@[go_sem] theorem Sx (d:Option Nat) (v:AV):C3 kd e d R V v σ=kd R V (bL e d v) σ:=(rfl)
@[go_sem] theorem Pq:tag p []=[]:=(rfl)
@[go_sem] theorem Nq (i:Nat) (l:List Nat):tag p (i :: l)=(p,i) :: tag p l:=(rfl)
@[go_sem] theorem KT (l:List Nat):bz af [] l=True:=by simp [bz]
@[go_sem] theorem Ky (V:List (Nat × Nat)):bz af V []=True:=by simp [bz]
@[go_sem] theorem Kz (q i j:Nat) (l:List Nat):bz af ((q,i) :: V) (j :: l)=((q∈af∨i∉j :: l)∧bz af V (j :: l)):=by
 unfold bz
 rw [List.forall_mem_cons,eq_iff_iff]
 refine and_congr (or_congr (by simp) ?_) Iff.rfl
 constructor
 ·intro h hm; exact h i hm rfl
 ·intro h k hk he; exact h (by have he:i=k:=he; rw [he]; exact hk)
@[go_sem] theorem QP (x:AX):tG H (.mv x) af R V p n c kk e ob=ar H (.mv x) e ⟨ob,n,c⟩ (kk R V):=by simp [tG,aO.cg,aO.pB,qs,aO.nd,aO.dM,aO.lU,bz,tag]
@[go_sem] theorem N8 (x a b:AX):tG H (.pick x a b) af R V p n c kk e ob=ar H (.pick x a b) e ⟨ob,n,c⟩ (kk R V):=by simp [tG,aO.cg,aO.pB,qs,aO.nd,aO.dM,aO.lU,bz,tag]
@[go_sem] theorem K6 (x:AX):tG H (.ba x) af R V p n c kk e ob=ar H (.ba x) e ⟨ob,n,c⟩ (kk R V):=by simp [tG,aO.cg,aO.pB,qs,aO.nd,aO.dM,aO.lU,bz,tag]
@[go_sem] theorem PU (o:BinOp) (x y:AX):tG H (.bin o x y) af R V p n c kk e ob=ar H (.bin o x y) e ⟨ob,n,c⟩ (kk R V):=by simp [tG,aO.cg,aO.pB,qs,aO.nd,aO.dM,aO.lU,bz,tag]
@[go_sem] theorem QQ (o:Nat) (x:AX):tG H (.fa o x) af R V p n c kk e ob=ar H (.fa o x) e ⟨ob,n,c⟩ (kk R V):=by simp [tG,aO.cg,aO.pB,qs,aO.nd,aO.dM,aO.lU,bz,tag]
@[go_sem] theorem PS (x:AX):tG H (.len x) af R V p n c kk e ob=ar H (.len x) e ⟨ob,n,c⟩ (kk R V):=by simp [tG,aO.cg,aO.pB,qs,aO.nd,aO.dM,aO.lU,bz,tag]
@[go_sem] theorem N9 (ag:Bool) (sz:Nat) (x:AX):tG H (.load ag sz x) af R V p n c kk e ob=(bz af V (x.ev e).kK∧ar H (.load ag sz x) e ⟨ob,n,c⟩ (kk (R++tag p (x.ev e).kK) V)):=by simp [tG,aO.cg,aO.pB,qs,aO.nd,aO.dM,aO.lU,bz,tag]
@[go_sem] theorem PT (es:Nat) (x i:AX):tG H (.bE es x i) af R V p n c kk e ob=(bz af V (x.ev e).kK∧ar H (.bE es x i) e ⟨ob,n,c⟩ (kk (R++tag p (x.ev e).kK) V)):=by simp [tG,aO.cg,aO.pB,qs,aO.nd,aO.dM,aO.lU,bz,tag]
@[go_sem] theorem PR (mu:Bool) (es:Nat) (ty:TypeId) (l:List AX):tG H (.lit mu es ty l) af R V p n c kk e ob=(bz af V [n]∧bz af R [n]∧ar H (.lit mu es ty l) e ⟨ob,n,c⟩ (kk R (V++[(p,n)]))):=by simp [tG,aO.cg,aO.pB,qs,aO.nd,aO.dM,aO.lU,tag]
@[go_sem] theorem Qp (id g es o m:Nat):AV.kK (.sl id g es o m)=[id]:=(rfl)
@[go_sem] theorem Pz (id g es o m:Nat):AV.kK (.ptr id g es o m)=[id]:=(rfl)
@[go_sem] theorem NG (es o m:Nat) (l:List AV):AV.kK (.eQ es l o m)=[]:=(rfl)
@[go_sem] theorem NH (es:Nat) (l:List AV):AV.kK (.list es l)=[]:=(rfl)
@[go_sem] theorem MS:tG H .nq af R V p n c kk e ob=(bz af V [n]∧bz af R [n]∧ar H .nq e ⟨ob,n,c⟩ (kk R (V++[(p,n)]))):=by simp [tG,aO.cg,aO.pB,qs,aO.nd,aO.dM,aO.lU,tag]
@[go_sem] theorem K7 (x k v:AX):tG H (.dd x k v) af R V p n c kk e ob=dmap (x.ev e) (k.ev e) (v.ev e) af R V p n c kk ob:=(rfl)
@[go_sem] theorem Tb (id g:Nat) (kq:IntKind) (q:Int) (v:AV):dmap (.jq id g) (.int kq q) v af R V p n c kk ob=(v.one=true∧cw af V id∧cw af R id∧∃ o,ob id=some o∧o.g=g∧o.ro=false∧cP kq o.l=true∧mK q o.l=none∧
   kk R (V++[(yr+p,id)]) .bC ⟨bd ob id (some { o with l:=ew kq q v o.l }),n,c⟩):=(rfl)
@[go_sem] theorem KA (id:Nat):cw af [] id=True:=by simp [cw]
@[go_sem] theorem IJ (q i id:Nat):cw af ((q,i) :: V) id=((q∈af∨i≠id∨yr≤q)∧cw af V id):=by simp [cw]
end
section
variable {p : Nat} {d : Option Nat} {af : List Nat} {R : List (Nat × Nat)} {kk : List (Nat × Nat) → (Nat → AV) → St → Prop} {ob ob' : Nat → Option aU} {v : AV} {τ : St} {L : List HS}
@[go_sem] theorem Nr:cD p []=[]:=(rfl)
@[go_sem] theorem Ms (i:Nat) (l:List Nat):cD p (i :: l)=(p,i) :: cD p l:=(rfl)
@[go_sem] theorem MK:nB af [] ob ob'=True:=by simp [nB]
@[go_sem] theorem K4 (q i:Nat):nB af ((q,i) :: R) ob ob'=((q∈af∨ob' i=ob i)∧nB af R ob ob'):=by simp [nB]
@[go_sem] theorem K3:nB af R ob ob=True:=by simp [nB]
@[go_sem] theorem Us:Bf kk R e d σ v τ=kk R (bL e d v) σ:=(rfl)
@[go_sem] theorem Ut:Ku kk af R e d ob v τ=(nB af R ob τ.ob∧kk R (bL e d v) τ):=(rfl)
@[go_sem] theorem Sm (op:aO):Kq H p op d af kk R e σ=bm H p op d af kk R e σ:=(rfl)
@[go_sem] theorem So:Ks d kk R e σ=kk R (bL e d (.tuple [])) σ:=(rfl)
@[go_sem] theorem ME:dR H [] k R e σ=k e σ:=(rfl)
@[go_sem] theorem KW (op:aO):dR H (⟨p,⟨d,op,none,af⟩⟩ :: L) k R e σ=bm H p op d af (dR H L k) R e σ:=(rfl)
@[go_sem] theorem KC (op:aO) (s:Nat) (w:Bool):dR H (⟨p,⟨d,op,some (s,w),af⟩⟩ :: L) k R e σ=tg s w (Kq H p op d af (dR H L k) R) (Ks d (dR H L k) R) (e s) e σ:=(rfl)
@[go_sem] theorem PG:n6 H (.aB L) Q e σ=dR H L (Q .lJ) [] e σ:=(rfl)
@[go_sem] theorem PJ (x:AX):bm H p (.mv x) d af kk R e σ=ar H (.mv x) e σ (Bf kk R e d σ):=by simp [bm,aO.lt,aO.new,aO.nd,aO.dM,cD]
@[go_sem] theorem MG (x a b:AX):bm H p (.pick x a b) d af kk R e σ=ar H (.pick x a b) e σ (Bf kk R e d σ):=by simp [bm,aO.lt,aO.new,aO.nd,aO.dM,cD]
@[go_sem] theorem K0 (zs:List AV) (ps:List (Nat × Nat × AX)):bm H p (.build zs ps) d af kk R e σ=ar H (.build zs ps) e σ (Bf kk R e d σ):=by simp [bm,aO.lt,aO.new,aO.nd,aO.dM,cD]
@[go_sem] theorem KD (x:AX):bm H p (.ba x) d af kk R e σ=ar H (.ba x) e σ (Bf kk R e d σ):=by simp [bm,aO.lt,aO.new,aO.nd,aO.dM,cD]
@[go_sem] theorem NY (o:BinOp) (x y:AX):bm H p (.bin o x y) d af kk R e σ=ar H (.bin o x y) e σ (Bf kk R e d σ):=by simp [bm,aO.lt,aO.new,aO.nd,aO.dM,cD]
@[go_sem] theorem NW (g:Bool) (x y:AX):bm H p (.F9 g x y) d af kk R e σ=ar H (.F9 g x y) e σ (Bf kk R e d σ):=by simp [bm,aO.lt,aO.new,aO.nd,aO.dM,cD]
@[go_sem] theorem NV (g:Bool) (ks:List Nat) (x y:AX):bm H p (.eqs g ks x y) d af kk R e σ=ar H (.eqs g ks x y) e σ (Bf kk R e d σ):=by simp [bm,aO.lt,aO.new,aO.nd,aO.dM,cD]
@[go_sem] theorem PH (u:UnOp) (x:AX):bm H p (.un u x) d af kk R e σ=ar H (.un u x) e σ (Bf kk R e d σ):=by simp [bm,aO.lt,aO.new,aO.nd,aO.dM,cD]
@[go_sem] theorem NR (f:Nat) (l:List AX):bm H p (.H9 f l) d af kk R e σ=ar H (.H9 f l) e σ (Bf kk R e d σ):=by simp [bm,aO.lt,aO.new,aO.nd,aO.dM,cD]
@[go_sem] theorem PK (o:Nat) (x:AX):bm H p (.fa o x) d af kk R e σ=ar H (.fa o x) e σ (Bf kk R e d σ):=by simp [bm,aO.lt,aO.new,aO.nd,aO.dM,cD]
@[go_sem] theorem NU (x:AX) (i:Nat):bm H p (.ext x i) d af kk R e σ=ar H (.ext x i) e σ (Bf kk R e d σ):=by simp [bm,aO.lt,aO.new,aO.nd,aO.dM,cD]
@[go_sem] theorem NS (x:AX):bm H p (.len x) d af kk R e σ=ar H (.len x) e σ (Bf kk R e d σ):=by simp [bm,aO.lt,aO.new,aO.nd,aO.dM,cD]
@[go_sem] theorem MI (x:AX):bm H p (.lens x) d af kk R e σ=ar H (.lens x) e σ (Bf kk R e d σ):=by simp [bm,aO.lt,aO.new,aO.nd,aO.dM,cD]
@[go_sem] theorem NQ (g:Bool) (x:AX) (l:List AX):bm H p (.Fa g x l) d af kk R e σ=ar H (.Fa g x l) e σ (Bf kk R e d σ):=by simp [bm,aO.lt,aO.new,aO.nd,aO.dM,cD]
@[go_sem] theorem MF (x:AX) (lo hi:Option AX):bm H p (.vQ x lo hi) d af kk R e σ=ar H (.vQ x lo hi) e σ (Bf kk R e d σ):=by simp [bm,aO.lt,aO.new,aO.nd,aO.dM,cD]
@[go_sem] theorem PI (q:Ko) (l:List AX):bm H p (.pu q l) d af kk R e σ=ar H (.pu q l) e σ (Bf kk R e d σ):=by simp [bm,aO.lt,aO.new,aO.nd,aO.dM,cD]
@[go_sem] theorem MH (ag:Bool) (sz:Nat) (x:AX):bm H p (.load ag sz x) d af kk R e σ=ar H (.load ag sz x) e σ (Bf kk (R++cD p (x.ev e).kK) e d σ):=by simp [bm,aO.lt,aO.new,aO.nd,aO.dM,cD]
@[go_sem] theorem NT (es:Nat) (x i:AX):bm H p (.bE es x i) d af kk R e σ=ar H (.bE es x i) e σ (Bf kk (R++cD p (x.ev e).kK) e d σ):=by simp [bm,aO.lt,aO.new,aO.nd,aO.dM,cD]
@[go_sem] theorem NP (es:Nat) (x:AX) (lo hi:Option AX):bm H p (.rm es x lo hi) d af kk R e σ=ar H (.rm es x lo hi) e σ (Bf kk (R++cD p (x.ev e).kK) e d σ):=by simp [bm,aO.lt,aO.new,aO.nd,aO.dM,cD]
@[go_sem] theorem KX (sz:Nat) (x v:AX):bm H p (.store sz x v) d af kk R e σ=ar H (.store sz x v) e σ (Ku kk af R e d σ.ob):=by simp [bm,aO.lt,aO.new,aO.nd]
@[go_sem] theorem K1 (es:Nat) (ty:TypeId) (z:AV):bm H p (.alloc es ty z) d af kk R e σ=ar H (.alloc es ty z) e σ (Ku kk af R e d σ.ob):=by simp [bm,aO.lt,aO.new,aO.nd]
@[go_sem] theorem KY (es:Nat) (ty:TypeId) (l:List AX):bm H p (.lit true es ty l) d af kk R e σ=ar H (.lit true es ty l) e σ (Ku kk af R e d σ.ob):=by simp [bm,aO.lt,aO.new]
@[go_sem] theorem KZ (es:Nat) (ty:TypeId) (l:List AX):bm H p (.lit false es ty l) d af kk R e σ=ar H (.lit false es ty l) e σ (Bf kk R e d σ):=by simp [bm,aO.lt,aO.dM,cD]
@[go_sem] theorem NZ (es b:Nat) (ty:TypeId) (x y:AX):bm H p (.app es b ty x y) d af kk R e σ=ar H (.app es b ty x y) e σ (Ku kk af R e d σ.ob):=by simp [bm,aO.lt,aO.new,aO.nd]
@[go_sem] theorem MJ (f:Nat) (l:List AX):bm H p (.call f l) d af kk R e σ=ar H (.call f l) e σ (Ku kk af R e d σ.ob):=by simp [bm,aO.lt,aO.new,aO.nd]
@[go_sem] theorem NX (es:Nat) (x y:AX):bm H p (.Ga es x y) d af kk R e σ=ar H (.Ga es x y) e σ (Ku kk af R e d σ.ob):=by simp [bm,aO.lt,aO.new,aO.nd]
@[go_sem] theorem KE (ok:Bool) (z:AV) (x q:AX):bm H p (.ft ok z x q) d af kk R e σ=ar H (.ft ok z x q) e σ (Ku kk af R e d σ.ob):=by simp [bm,aO.lt,aO.new,aO.nd]
end
@[go_sem] theorem Te (c:AX) (a b:ay):n6 H (.cond c a b) Q e σ=qu (c.ev e) (n6 H a Q) (n6 H b Q) e σ:=(rfl)
@[go_sem] theorem MT (A B:(Nat→AV)→St→Prop):qu (.bool true) A B e σ=A e σ:=by simp [qu]
@[go_sem] theorem K8 (A B:(Nat→AV)→St→Prop):qu (.bool false) A B e σ=B e σ:=by simp [qu]
theorem GO {b:Bool} {A B:(Nat→AV)→St→Prop} (hA:b=true→A e σ) (hB:b=false→B e σ):qu (.bool b) A B e σ:=⟨hA,hB⟩
theorem ah {p:Prop} [Decidable p] {A B:(Nat→AV)→St→Prop} (hA:p→A e σ) (hB:¬p→B e σ):qu (.bool (decide p)) A B e σ:=⟨fun h=>hA (of_decide_eq_true h),fun h=>hB (of_decide_eq_false h)⟩
theorem aZ {p:Prop} [Decidable p] {A B:(Nat→AV)→St→Prop} (hA:¬p→A e σ) (hB:p→B e σ):qu (.bool (!decide p)) A B e σ:=⟨fun h=>hA (by simpa using h),fun h=>hB (by simpa using h)⟩
@[go_sem] theorem SD (id:Nat) (a:ay):n6 H (.block id a) Q e σ=n6 H a (jx id Q) e σ:=(rfl)
@[go_sem] theorem Ta (id:Nat):n6 H (.exit id) Q e σ=Q (.exit id) e σ:=(rfl)
@[go_sem] theorem Uc:n6 H .ret Q e σ=Q .ret e σ:=(rfl)
@[go_sem] theorem SY:n6 H .skip Q e σ=Q .lJ e σ:=(rfl)
@[go_sem] theorem Nw (rs:List RS) (R:AV→St→Prop):Mn rs R .ret e σ=sS e σ rs (fun r=>R r σ):=(rfl)
@[go_sem] theorem Ql (s:Nat) (K:AV→Prop):vT e σ (.t s) K=K (e s):=(rfl)
@[go_sem] theorem R5 (s:RS) (K:AV→Prop):sS e σ [s] K=vT e σ s K:=(rfl)
@[go_sem] theorem R4 (s t:Nat) (K:AV→Prop):sS e σ [.t s,.t t] K=K (.tuple [e s,e t]):=(rfl)
@[go_sem] theorem R0 (s t u:Nat) (K:AV→Prop):sS e σ [.t s,.t t,.t u] K=K (.tuple [e s,e t,e u]):=(rfl)
@[go_sem] theorem RZ (s t u v:Nat) (K:AV→Prop):sS e σ [.t s,.t t,.t u,.t v] K=K (.tuple [e s,e t,e u,e v]):=(rfl)
def M6 (t:Nat) (e:Nat→AV) (K:AV→Prop) (a:AV):Prop:=K (.tuple [a,e t])
def M5 (t u:Nat) (e:Nat→AV) (K:AV→Prop) (a:AV):Prop:=K (.tuple [a,e t,e u])
@[go_sem] theorem R8 (t:Nat) (K:AV→Prop) (a:AV):M6 t e K a=K (.tuple [a,e t]):=(rfl)
@[go_sem] theorem R7 (t u:Nat) (K:AV→Prop) (a:AV):M5 t u e K a=K (.tuple [a,e t,e u]):=(rfl)
@[go_sem] theorem Qh (s:Nat) (ag:Bool) (sz t:Nat) (K:AV→Prop):sS e σ [.c s ag sz,.t t] K=vT e σ (.c s ag sz) (M6 t e K):=(rfl)
@[go_sem] theorem Qg (s:Nat) (ag:Bool) (sz t u:Nat) (K:AV→Prop):sS e σ [.c s ag sz,.t t,.t u] K=vT e σ (.c s ag sz) (M5 t u e K):=(rfl)
def xT (e:Nat→AV) (σ:St) (rs:List RS) (acc:List AV) (K:AV→Prop) (a:AV):Prop:=H0 e σ rs fun l=>K (CC (acc++a :: l))
@[go_sem] theorem Qf (s:Nat) (ag:Bool) (sz:Nat) (s':Nat) (ag':Bool) (sz':Nat) (r:List RS) (K:AV→Prop):sS e σ (.c s ag sz :: .c s' ag' sz' :: r) K=vT e σ (.c s ag sz) (xT e σ (.c s' ag' sz' :: r) [] K):=(rfl)
@[go_sem] theorem Qd (s s':Nat) (ag':Bool) (sz':Nat) (r:List RS) (K:AV→Prop):sS e σ (.t s :: .c s' ag' sz' :: r) K=xT e σ (.c s' ag' sz' :: r) [] K (e s):=(rfl)
@[go_sem] theorem Qe (s:Nat) (ag:Bool) (sz:Nat) (t u v:Nat) (r:List RS) (K:AV→Prop):sS e σ (.c s ag sz :: .t t :: .t u :: .t v :: r) K=vT e σ (.c s ag sz) (xT e σ (.t t :: .t u :: .t v :: r) [] K):=(rfl)
@[go_sem] theorem Qk (acc:List AV) (K:AV→Prop) (a:AV):xT e σ [] acc K a=K (CC (acc++[a])):=(rfl)
@[go_sem] theorem Qi (s:Nat) (r:List RS) (acc:List AV) (K:AV→Prop) (a:AV):xT e σ (.t s :: r) acc K a=xT e σ r (acc++[a]) K (e s):=by simp only [xT,H0,vT,List.append_assoc,List.cons_append,List.nil_append]
@[go_sem] theorem Qj (s:Nat) (ag:Bool) (sz:Nat) (r:List RS) (acc:List AV) (K:AV→Prop) (a:AV):xT e σ (.c s ag sz :: r) acc K a=vT e σ (.c s ag sz) (xT e σ r (acc++[a]) K):=by
 have:(fun b=>xT e σ r (acc++[a]) K b)=fun b=>H0 e σ r fun l=>K (CC (acc++a :: b :: l)):=by funext b; simp only [xT,List.append_assoc,List.cons_append,List.nil_append]
 show _=vT e σ (.c s ag sz) (fun b=>xT e σ r (acc++[a]) K b)
 rw [this]; rfl
@[go_sem] theorem Se (a b:AV) (l:List AV):CC (a :: b :: l)=.tuple (a :: b :: l):=(rfl)
@[go_sem] theorem Qm (s:Nat) (ag:Bool) (sz:Nat) (K:AV→Prop):vT e σ (.c s ag sz) K=Hg ag sz σ K (e s):=(rfl)
@[go_sem] theorem R6 (ag:Bool) (sz id g es i off:Nat) (K:AV→Prop):Hg ag sz σ K (.ptr id g es i off)=∃ o,σ.ob id=some o∧o.g=g∧o.es=es∧off+sz≤es∧∃ y,o.l[i]?=some y∧K (sub ag sz off y):=(rfl)
@[go_sem] theorem U1 (x:AX):ar H (.mv x) e σ C=C (x.ev e) σ:=(rfl)
@[go_sem] theorem S5 (c a b:AX):ar H (.pick c a b) e σ C=pS (c.ev e) (a.ev e) (b.ev e) σ C:=(rfl)
@[go_sem] theorem Mz (a b:AV):pS (.bool true) a b σ C=C a σ:=by simp [pS]
@[go_sem] theorem KS (a b:AV):pS (.bool false) a b σ C=C b σ:=by simp [pS]
@[go_sem] theorem SG (es:Nat) (ty:TypeId) (z:AV):ar H (.alloc es ty z) e σ C=C (.ptr σ.n σ.c es 0 0) (σ.push es ty [z]):=(rfl)
@[go_sem] theorem UC (es:Nat) (ty:TypeId) (x:AX):ar H (.box es ty x) e σ C=O7 es ty (x.ev e) σ C:=(rfl)
@[go_sem] theorem Tg (es:Nat) (ty:TypeId) (v:AV):O7 es ty v σ C=(v.flat=true∧v.cells.length=es∧C (.ptr σ.n σ.c es 0 0) (σ.push es ty [v])):=(rfl)
@[go_sem] theorem SC (zs:List AV) (ps:List (Nat × Nat × AX)):ar H (.build zs ps) e σ C=AP zs (KL e ps) σ C:=(rfl)
@[go_sem] theorem QV (zs:List AV) (ps:List (Nat × Nat × AV)):AP zs ps σ C=((∀ p∈ps,p.2.2.flat=true∧p.2.2.cells.length=p.2.1∧p.1+p.2.1≤zs.length)∧C (.agg (AD zs (ps.map fun p=>(p.1,p.2.2)))) σ):=(rfl)
@[go_sem] theorem Uo (mu:Bool) (es:Nat) (ty:TypeId) (xs:List AX):ar H (.lit mu es ty xs) e σ C=Gy mu es ty (qp e xs) σ C:=(rfl)
@[go_sem] theorem Qu (es:Nat) (ty:TypeId) (vs:List AV):Gy false es ty vs σ C=((∀ v∈vs,v.flat=true∧v.cells.length=es∧v.cL=true)∧C (.list es vs) σ):=by simp [Gy]
@[go_sem] theorem Qt (es:Nat) (ty:TypeId) (vs:List AV):Gy true es ty vs σ C=((∀ v∈vs,v.flat=true∧v.cells.length=es)∧C (.sl σ.n σ.c es 0 vs.length) (σ.push es ty vs)):=by simp [Gy]
@[go_sem] theorem S7 (ag:Bool) (sz:Nat) (x:AX):ar H (.load ag sz x) e σ C=uM ag sz (x.ev e) σ C:=(rfl)
@[go_sem] theorem PE (ag:Bool) (sz id g es i off:Nat):uM ag sz (.ptr id g es i off) σ C=∃ o,σ.ob id=some o∧o.g=g∧o.es=es∧off+sz≤es∧∃ y,o.l[i]?=some y∧C (sub ag sz off y) σ:=(rfl)
@[go_sem] theorem PD (ag:Bool) (sz es i off:Nat) (l:List AV):uM ag sz (.eQ es l i off) σ C=(off+sz≤es∧∃ y,l[i]?=some y∧C (sub ag sz off y) σ):=(rfl)
@[go_sem] theorem RW (sz:Nat) (x v:AX):ar H (.store sz x v) e σ C=sQ sz (x.ev e) (v.ev e) σ C:=(rfl)
@[go_sem] theorem P4 (sz id g es i off:Nat) (v:AV):sQ sz (.ptr id g es i off) v σ C=∃ o,σ.ob id=some o∧o.g=g∧o.es=es∧o.ro=false∧v.flat=true∧v.cells.length=sz∧off+sz≤es∧
   ∃ y,o.l[i]?=some y∧C .bC (σ.put id o (o.l.set i (gH off v y))):=rfl
@[go_sem] theorem Qq (x:AX):ar H (.ba x) e σ C=iL (x.ev e) σ C:=(rfl)
@[go_sem] theorem NI (id g es i off:Nat):iL (.ptr id g es i off) σ C=C (.ptr id g es i off) σ:=(rfl)
@[go_sem] theorem UE (op:BinOp) (x y:AX):ar H (.bin op x y) e σ C=iD op (x.ev e) (y.ev e) σ C:=(rfl)
section
variable (K : IntKind) (a b : Int)
@[go_sem] theorem UH:iD .add (.int K a) (.int K b) σ C=C (.int K (K.wrap (a+b))) σ:=by simp [iD,pL]
@[go_sem] theorem T9:iD .sub (.int K a) (.int K b) σ C=C (.int K (K.wrap (a-b))) σ:=by simp [iD,pL]
@[go_sem] theorem Uh:iD .mul (.int K a) (.int K b) σ C=C (.int K (K.wrap (a * b))) σ:=by simp [iD,pL]
@[go_sem] theorem Ud:iD .rem (.int K a) (.int K b) σ C=(b≠0∧C (.int K (a.tmod b)) σ):=by simp [iD,pL]
@[go_sem] theorem Uy:iD .eql (.int K a) (.int K b) σ C=C (.bool (decide (a=b))) σ:=by simp [iD,pL]
@[go_sem] theorem Ug:iD .neq (.int K a) (.int K b) σ C=C (.bool (!decide (a=b))) σ:=by simp [iD,pL]
@[go_sem] theorem Un:iD .lss (.int K a) (.int K b) σ C=C (.bool (decide (a<b))) σ:=by simp [iD,pL]
@[go_sem] theorem Up:iD .leq (.int K a) (.int K b) σ C=C (.bool (decide (a≤b))) σ:=by simp [iD,pL]
@[go_sem] theorem Uu:iD .gtr (.int K a) (.int K b) σ C=C (.bool (decide (b<a))) σ:=by simp [iD,pL]
@[go_sem] theorem Uv:iD .geq (.int K a) (.int K b) σ C=C (.bool (decide (b≤a))) σ:=by simp [iD,pL]
end
@[go_sem] theorem Tj (a b:ByteArray):iD .add (.str a) (.str b) σ C=(a.size+b.size≤9223372036854775807∧C (.str (a++b)) σ):=by simp [iD,pL]
@[go_sem] theorem S6 (a b:ByteArray):iD .neq (.str a) (.str b) σ C=C (.bool (!decide (a=b))) σ:=by simp [iD,pL]
@[go_sem] theorem Uz (neg:Bool) (x y:AX):ar H (.F9 neg x y) e σ C=Fp neg (x.ev e) (y.ev e) σ C:=(rfl)
@[go_sem] theorem QH (a b:Bool):Fp false (.bool a) (.bool b) σ C=C (.bool (decide (a=b))) σ:=(rfl)
@[go_sem] theorem QG (a b:Bool):Fp true (.bool a) (.bool b) σ C=C (.bool (!decide (a=b))) σ:=(rfl)
@[go_sem] theorem Ux (g:Bool) (ks:List Nat) (x y:AX):ar H (.eqs g ks x y) e σ C=BO g ks (x.ev e) (y.ev e) σ C:=(rfl)
@[go_sem] theorem QF (ks:List Nat) (cs ds:List AV):BO false ks (.agg cs) (.agg ds) σ C=∃ b,yZ ks cs ds=some b∧C (.bool b) σ:=by simp [BO]
@[go_sem] theorem QE (ks:List Nat) (cs ds:List AV):BO true ks (.agg cs) (.agg ds) σ C=∃ b,yZ ks cs ds=some b∧C (.bool (!b)) σ:=by simp [BO]
@[go_sem] theorem PO:yZ [] [] []=some true:=(rfl)
@[go_sem] theorem PQ (ks:List Nat) (K:IntKind) (a b:Int) (r s:List AV):yZ (0 :: ks) (.int K a :: r) (.int K b :: s)=(yZ ks r s).map fun t=>decide (a=b)&&t:=by simp [yZ]
@[go_sem] theorem UY (op:UnOp) (x:AX):ar H (.un op x) e σ C=MX op (x.ev e) σ C:=(rfl)
@[go_sem] theorem Uf (b:Bool):MX .not (.bool b) σ C=C (.bool (!b)) σ:=(rfl)
@[go_sem] theorem Tc (K:IntKind) (x:AX):ar H (.conv K x) e σ C=AI K (x.ev e) σ C:=(rfl)
@[go_sem] theorem Sz (K K':IntKind) (n:Int):AI K (.int K' n) σ C=C (.int K (K.wrap n)) σ:=(rfl)
@[go_sem] theorem Uk (f:Nat) (l:List AX):ar H (.H9 f l) e σ C=C (.func f (qp e l)) σ:=(rfl)
@[go_sem] theorem Uj (f:Nat) (l:List AX):ar H (.LM f l) e σ C=((∀ z∈qp e l,z.cL=true)∧C (.qe f (qp e l)) σ):=(rfl)
@[go_sem] theorem QT (f:Nat) (fs args:List AV):mQ H (.qe f fs) args σ C=H f (fs++args) σ C:=(rfl)
@[go_sem] theorem Ny (f:Nat) (l:List AV):AV.cL (.qe f l)=true:=(rfl)
@[go_sem] theorem U4 (off:Nat) (x:AX):ar H (.fa off x) e σ C=L4 off (x.ev e) σ C:=(rfl)
@[go_sem] theorem Sv (off id g es i o:Nat):L4 off (.ptr id g es i o) σ C=C (.ptr id g es i (o+off)) σ:=(rfl)
@[go_sem] theorem Su (off es i o:Nat) (l:List AV):L4 off (.eQ es l i o) σ C=C (.eQ es l i (o+off)) σ:=(rfl)
@[go_sem] theorem Ur (es:Nat) (x i:AX):ar H (.bE es x i) e σ C=wJ es (x.ev e) (i.ev e) σ C:=(rfl)
@[go_sem] theorem Qv (es id g off n:Nat) (K:IntKind) (ix:Int):wJ es (.sl id g es off n) (.int K ix) σ C=((∃ o,σ.ob id=some o∧o.g=g)∧0≤ix∧ix<n∧C (.ptr id g es (off+ix.toNat) 0) σ):=by simp [wJ]
@[go_sem] theorem Qw (es:Nat) (l:List AV) (K:IntKind) (ix:Int):wJ es (.list es l) (.int K ix) σ C=(0≤ix∧ix<l.length∧C (.eQ es l ix.toNat 0) σ):=by simp [wJ]
@[go_sem] theorem Uw (x:AX) (i:Nat):ar H (.ext x i) e σ C=uS (x.ev e) i σ C:=(rfl)
@[go_sem] theorem QD (a:AV) (l:List AV):uS (.tuple (a :: l)) 0 σ C=C a σ:=by simp [uS]
@[go_sem] theorem QC (a b:AV) (l:List AV):uS (.tuple (a :: b :: l)) 1 σ C=C b σ:=by simp [uS]
@[go_sem] theorem QB (a b c:AV) (l:List AV):uS (.tuple (a :: b :: c :: l)) 2 σ C=C c σ:=by simp [uS]
@[go_sem] theorem QA (a b c d:AV) (l:List AV):uS (.tuple (a :: b :: c :: d :: l)) 3 σ C=C d σ:=by simp [uS]
@[go_sem] theorem Uq (x:AX):ar H (.len x) e σ C=ik (x.ev e) σ C:=(rfl)
@[go_sem] theorem Si:ik .nil σ C=C (.int .i64 0) σ:=(rfl)
@[go_sem] theorem Sj (es:Nat) (l:List AV):ik (.list es l) σ C=C (.int .i64 l.length) σ:=(rfl)
@[go_sem] theorem Sg (id g es off n:Nat):ik (.sl id g es off n) σ C=C (.int .i64 n) σ:=(rfl)
@[go_sem] theorem Sk (id g es off n c:Nat):ik (.fH id g es off n c) σ C=C (.int .i64 n) σ:=(rfl)
@[go_sem] theorem S8 (x:AX):ar H (.lens x) e σ C=Ai (x.ev e) σ C:=(rfl)
@[go_sem] theorem Sf (s:ByteArray):Ai (.str s) σ C=C (.int .i64 s.size) σ:=(rfl)
@[go_sem] theorem UG (es b:Nat) (ty:TypeId) (x y:AX):ar H (.app es b ty x y) e σ C=mT es b ty (x.ev e) (y.ev e) σ C:=(rfl)
@[go_sem] theorem EH (es b:Nat) (ty:TypeId) (id g n:Nat) (l:List AV):mT es b ty (.sl id g es 0 n) (.list es l) σ C=∃ o,σ.ob id=some o∧o.g=g∧o.es=es∧o.ty=ty∧o.ro=false∧o.ap=true∧o.l.length=n∧
     n+l.length≤maxLen∧(n+l.length) * b≤140737488355328∧C (.sl id σ.c es 0 (n+l.length)) (σ.renew id o (o.l++l)):=by simp [mT,bY]
theorem iR (es b:Nat) (ty:TypeId) (l:List AV):mT es b ty .nil (.list es l) σ C=(l.length≤maxLen∧l.length * b≤140737488355328∧(l=[]→C .nil σ)∧(l≠[]→C (.sl σ.n σ.c es 0 l.length) (σ.push es ty l))):=by simp [mT,bY]
@[go_sem] theorem Ui (mx:Bool) (x:AX) (xs:List AX):ar H (.Fa mx x xs) e σ C=DL mx (x.ev e) (qp e xs) σ C:=(rfl)
@[go_sem] theorem Sb (mx:Bool) (a:AV):DL mx a [] σ C=C a σ:=(rfl)
@[go_sem] theorem Um (K:IntKind) (a b:Int) (l:List AV):DL true (.int K a) (.int K b :: l) σ C=DL true (.int K (max a b)) l σ C:=by simp [DL,fb]
@[go_sem] theorem Ul (K:IntKind) (a b:Int) (l:List AV):DL false (.int K a) (.int K b :: l) σ C=DL false (.int K (min a b)) l σ C:=by simp [DL,fb]
@[go_sem] theorem Ua (es:Nat) (x:AX) (lo hi:Option AX):ar H (.rm es x lo hi) e σ C=ji es (x.ev e) (DV e lo) (DV e hi) σ C:=(rfl)
@[go_sem] theorem SX (x:AX) (lo hi:Option AX):ar H (.vQ x lo hi) e σ C=tN (x.ev e) (DV e lo) (DV e hi) σ C:=(rfl)
section
variable (es : Nat) (l : List AV) (K K' : IntKind) (p q : Int)
@[go_sem] theorem P6 (s:ByteArray) (hi:Int):tN (.str s) none (some (.int K hi)) σ C=(0≤hi∧hi≤s.size∧C (.str (s.extract 0 hi.toNat)) σ):=(rfl)
@[go_sem] theorem P5 (s:ByteArray) (lo:Int):tN (.str s) (some (.int K lo)) none σ C=(0≤lo∧lo≤s.size∧C (.str (s.extract lo.toNat s.size)) σ):=(rfl)
@[go_sem] theorem P7 (s:ByteArray) (lo hi:Int):tN (.str s) (some (.int K lo)) (some (.int K' hi)) σ C=(0≤lo∧lo≤hi∧hi≤s.size∧C (.str (s.extract lo.toNat hi.toNat)) σ):=(rfl)
@[go_sem] theorem RY (hi:Int):ji es (.list es l) none (some (.int K hi)) σ C=(0≤hi∧hi≤l.length∧C (.list es (l.take hi.toNat)) σ):=by simp [ji,eK,oJ]
@[go_sem] theorem RX (lo:Int):ji es (.list es l) (some (.int K lo)) none σ C=(0≤lo∧lo≤l.length∧C (.list es (l.drop lo.toNat)) σ):=by simp [ji,eK,oJ]
@[go_sem] theorem P8 (id g off n:Nat) (lo:Int):ji es (.sl id g es off n) (some (.int K lo)) none σ C=((∃ o,σ.ob id=some o∧o.g=g)∧0≤lo∧lo≤n∧(lo.toNat=n→C (.list es []) σ)∧(lo.toNat<n→C (.sl id g es (off+lo.toNat) (n-lo.toNat)) σ)):=by simp [ji,eK,oJ]
@[go_sem] theorem P9 (id g off n:Nat) (hi:Int):ji es (.sl id g es off n) none (some (.int K hi)) σ C=((∃ o,σ.ob id=some o∧o.g=g)∧0≤hi∧hi≤n∧(0=hi.toNat→C (.list es []) σ)∧(0<hi.toNat→C (.sl id g es off hi.toNat) σ)):=by simp [ji,eK,oJ]
end
section
variable (es id g off n c : Nat) (K K' : IntKind) (p q : Int)
@[go_sem] theorem Qc:ji es (.fH id g es off n c) none (some (.int K q)) σ C=(off+n≤c∧0≤q∧q≤(c-off:Nat)∧(0=c-off→C (.list es []) σ)∧(0<c-off→C (.fH id g es off q.toNat c) σ)):=by simp [ji,eK,w7]
@[go_sem] theorem Qb:ji es (.fH id g es off n c) (some (.int K p)) none σ C=(off+n≤c∧0≤p∧p≤n∧(p.toNat=c-off→C (.list es []) σ)∧(p.toNat<c-off→C (.fH id g es (off+p.toNat) (n-p.toNat) c) σ)):=by simp [ji,eK,w7]
end
@[go_sem] theorem UZ (p:Ko) (l:List AX):ar H (.pu p l) e σ C=M8 p (qp e l) σ C:=(rfl)
section
variable (K K' : IntKind) (a b : Int)
@[go_sem] theorem UD (op:BinOp):M8 (.bit op) [.int K a,.int K' b] σ C=∃ v,BQ op K a K' b=some v∧C v σ:=(rfl)
@[go_sem] theorem SZ (s:ByteArray):M8 .EM [.str s,.int K a] σ C=∃ v,(if 0≤a then (s[a.toNat]?).map fun b=>AV.int .u8 b.toNat else none)=some v∧C v σ:=(rfl)
@[go_sem] theorem Ti (ag:Bool) (es n:Nat) (cs:List AV):M8 (.Iw ag es n) [.agg cs,.int K a] σ C=(0≤a∧a<n∧(a.toNat+1) * es≤cs.length∧C (sub ag es (a.toNat * es) (.agg cs)) σ):=by simp [M8,Jd,and_assoc]
end
@[go_sem] theorem QS (id g es off n c:Nat):M8 .D8 [.fH id g es off n c] σ C=C (.int .i64 ((c-off:Nat):Int)) σ:=by simp [M8,Jd]
@[go_sem] theorem Sl (g:Bool) (x:AX):ar H (.kW g x) e σ C=Ao g (x.ev e) σ C:=(rfl)
theorem uN {g:Bool} {es:Nat} {l:List AV} (h0:l=[]→C (.bool true) σ∧C (.bool false) σ) (h1:l≠[]→C (.bool g) σ):Ao g (.list es l) σ C:=by
 cases l with
 | nil=>exact h0 rfl
 | cons a l=>exact h1 (by simp)
@[go_sem] theorem Sc:ar H .nq e σ C=C (.jq σ.n σ.c) ⟨bd σ.ob σ.n (some ⟨σ.c,2,rZ,false,false,[]⟩),σ.n+1,σ.c+1⟩:=(rfl)
@[go_sem] theorem Qr (x q v:AX):ar H (.dd x q v) e σ C=qW (x.ev e) (q.ev e) (v.ev e) σ C:=(rfl)
@[go_sem] theorem PA (id g:Nat) (kk:IntKind) (n:Int) (v:AV):qW (.jq id g) (.int kk n) v σ C=(v.one=true∧∃ o,σ.ob id=some o∧o.g=g∧o.ro=false∧cP kk o.l=true∧C .bC (σ.put id o (ew kk n v o.l))):=(rfl)
@[go_sem] theorem Qs (ok:Bool) (z:AV) (x q:AX):ar H (.ft ok z x q) e σ C=uL ok z (x.ev e) (q.ev e) σ C:=(rfl)
@[go_sem] theorem PB (ok:Bool) (z:AV) (id g:Nat) (kk:IntKind) (n:Int):uL ok z (.jq id g) (.int kk n) σ C=∃ o,σ.ob id=some o∧o.g=g∧cP kk o.l=true∧C (uK ok z (mK n o.l)) σ:=(rfl)
@[go_sem] theorem NM (z:AV):uK true z none=.tuple [z,.bool false]:=(rfl)
@[go_sem] theorem NO (z:AV):uK false z none=z:=(rfl)
@[go_sem] theorem NL (z x:AV):uK true z (some x)=.tuple [x,.bool true]:=(rfl)
@[go_sem] theorem NN (z x:AV):uK false z (some x)=x:=(rfl)
@[go_sem] theorem NK (n:Int):mK n []=none:=(rfl)
@[go_sem] theorem MB (kk:IntKind) (n a:Int) (x:AV) (l:List AV):mK n (.agg [.int kk a,x] :: l)=if n=a then some x else mK n l:=(rfl)
@[go_sem] theorem NJ (kk:IntKind) (n:Int) (v:AV):ew kk n v []=[.agg [.int kk n,v]]:=(rfl)
@[go_sem] theorem MA (k kk:IntKind) (n a:Int) (x v:AV) (l:List AV):ew k n v (.agg [.int kk a,x] :: l)=if n=a then .agg [.int k n,v] :: l else if n<a then .agg [.int k n,v] :: .agg [.int kk a,x] :: l else .agg [.int kk a,x] :: ew k n v l:=(rfl)
@[go_sem] theorem KV (kk:IntKind):cP kk []=true:=(rfl)
@[go_sem] theorem KB (kk:IntKind) (a:Int) (x:AV) (l:List AV):cP kk (.agg [.int kk a,x] :: l)=cP kk l:=by simp [cP,xB]
@[go_sem] theorem UA (es:Nat) (x y:AX):ar H (.Ga es x y) e σ C=D6 es (x.ev e) (y.ev e) σ C:=(rfl)
@[go_sem] theorem Sy (es id g off n:Nat) (l:List AV):D6 es (.sl id g es off n) (.list es l) σ C=∃ o,σ.ob id=some o∧o.g=g∧o.es=es∧o.ro=false∧off+n≤o.l.length∧
     C (.int .i64 (min l.length n:Nat)) (σ.put id o (o.l.take off++l.take n++o.l.drop (off+min l.length n))):=by
 simp [D6,JY,bY]
@[go_sem] theorem QR (es id g off n c:Nat) (l:List AV):D6 es (.fH id g es off n c) (.list es l) σ C=(0<min l.length n∧∃ o,σ.ob id=some o∧o.g=g∧o.es=es∧o.ro=false∧off≤o.l.length∧
     C (.int .i64 (min l.length n:Nat)) (σ.put id o (o.l.take off++l.take n++o.l.drop (off+min l.length n)))):=by simp [D6,JY,bY]
theorem O5 {es id g off n c id2 g2 off2 n2 c2:Nat} (h:0<min n2 n∧∃ o2,σ.ob id2=some o2∧o2.g=g2∧o2.es=es∧off2+min n2 n≤o2.l.length∧
   ∃ o,σ.ob id=some o∧o.g=g∧o.es=es∧o.ro=false∧off≤o.l.length∧C (.int .i64 (min n2 n:Nat)) (σ.put id o (o.l.take off++(o2.l.drop off2).take (min n2 n)++o.l.drop (off+min n2 n)))) :
  D6 es (.fH id g es off n c) (.fH id2 g2 es off2 n2 c2) σ C:=.inl ⟨rfl,rfl,h⟩
theorem O4 {es id g off n id2 g2 off2 n2 c2:Nat} (h:∃ o2,σ.ob id2=some o2∧o2.g=g2∧o2.es=es∧off2+n2≤o2.l.length∧∃ o,σ.ob id=some o∧o.g=g∧o.es=es∧o.ro=false∧off+n≤o.l.length∧
     C (.int .i64 (min ((o2.l.drop off2).take n2).length n:Nat)) (σ.put id o (o.l.take off++((o2.l.drop off2).take n2).take n++o.l.drop (off+min ((o2.l.drop off2).take n2).length n)))) :
  D6 es (.sl id g es off n) (.fH id2 g2 es off2 n2 c2) σ C:=by
 obtain ⟨o2,a1,a2,a3,a4,h⟩:=h
 refine .inr ⟨?_,?_,o2,a1,a2,a3,a4,rfl,h⟩
 ·intro _ _ h; cases h
 ·intro _ _ _ _ _ h; rcases h with h | ⟨_,h⟩ <;> cases h; rfl
@[go_sem] theorem UB (es:Nat) (z:AV) (x:AX):ar H (.KM es z x) e σ C=Im es z (x.ev e) σ C:=(rfl)
@[go_sem] theorem SA (es id g off n:Nat) (z:AV):Im es z (.sl id g es off n) σ C=∃ o,σ.ob id=some o∧o.g=g∧o.es=es∧o.ro=false∧off+n≤o.l.length∧
   C (.tuple []) (σ.put id o (o.l.take off++List.replicate n z++o.l.drop (off+n))):=by simp [Im]
@[go_sem] theorem UF (x:AX):ar H (.Iu x) e σ C=yN (x.ev e) σ C:=(rfl)
@[go_sem] theorem SF (l:List AV):yN (.list 1 l) σ C=∃ s,oI l=some s∧C (.str ⟨s.toArray⟩) σ:=by simp [yN,bY]
@[go_sem] theorem SE (id g off n:Nat):yN (.sl id g 1 off n) σ C=∃ o,σ.ob id=some o∧o.g=g∧o.es=1∧off+n≤o.l.length∧∃ s,oI ((o.l.drop off).take n)=some s∧C (.str ⟨s.toArray⟩) σ:=by
 simp only [yN,bY,eq_iff_iff]
 refine ⟨fun h=>h.2.2,fun h=>⟨?_,?_,h⟩⟩
 ·intro _ _ h; cases h
 ·intro _ _ _ _ _ h; rcases h with h | ⟨_,h⟩ <;> cases h; rfl
@[go_sem] theorem Th (es b:Nat) (ty:TypeId) (z:AV) (x y:AX):ar H (.Ba es b ty z x y) e σ C=FZ es b ty z (x.ev e) (y.ev e) σ C:=(rfl)
theorem O9 {es b:Nat} {ty:TypeId} {z:AV} {id g off n0 c:Nat} {K:IntKind} {n:Int} (h:0<n∧c-off<n0+n.toNat∧n0+n.toNat≤9223372036854775807∧(n0+n.toNat) * b≤140737488355328∧
   ∃ o,σ.ob id=some o∧o.g=g∧o.es=es∧off+n0≤o.l.length∧C (.sl σ.n σ.c es 0 (n0+n.toNat)) (σ.push es ty ((o.l.drop off).take n0++List.replicate n.toNat z))) :
  FZ es b ty z (.fH id g es off n0 c) (.int K n) σ C:=⟨rfl,h⟩
@[go_sem] theorem Pr (s t:ByteArray):(AV.str s=AV.str t)=(s=t):=by simp
@[go_sem] theorem Sa (es:Nat) (ty:TypeId):ar H (.fA es ty) e σ C=C (.sl σ.n σ.c es 0 0) (σ.push es ty []):=(rfl)
@[go_sem] theorem Tf (f:Nat) (l:List AX):ar H (.call f l) e σ C=H f (qp e l) σ C:=(rfl)
@[go_sem] theorem SB (x:AX) (l:List AX):ar H (.dF x l) e σ C=mQ H (x.ev e) (qp e l) σ C:=(rfl)
@[go_sem] theorem QU (f:Nat) (caps args:List AV):mQ H (.func f caps) args σ C=H f (args++caps) σ C:=(rfl)
theorem n4:maxLen=9223372036854775807:=by simp [maxLen]
theorem iP {α:Type} {i j:Nat} {a b:α} (h:¬i=j):(if i=j then a else b)=b:=if_neg h
theorem iQ {α:Type} {i j:Nat} {a b:α} (h:i<j):(if i<j then a else b)=a:=if_pos h
@[go_sem] theorem Sw:St.empty=⟨fun _=>none,0,0⟩:=(rfl)
@[go_sem] theorem S4 (ob:Nat→Option aU) (n c es:Nat) (ty:TypeId) (l:List AV):(St.mk ob n c).push es ty l=⟨bd ob n (some ⟨c,es,ty,false,true,l⟩),n+1,c+1⟩:=(rfl)
@[go_sem] theorem Ue (ob:Nat→Option aU) (n c id:Nat) (g es:Nat) (ty:TypeId) (ro ap:Bool) (l0 l:List AV):(St.mk ob n c).put id ⟨g,es,ty,ro,ap,l0⟩ l=⟨bd ob id (some ⟨g,es,ty,ro,ap,l⟩),n,c⟩:=(rfl)
@[go_sem] theorem R9 (ob:Nat→Option aU) (n c id:Nat) (g es:Nat) (ty:TypeId) (ro ap:Bool) (l0 l:List AV):(St.mk ob n c).renew id ⟨g,es,ty,ro,ap,l0⟩ l=⟨bd ob id (some ⟨c,es,ty,ro,ap,l⟩),n,c+1⟩:=(rfl)
@[go_sem] theorem RT (ob:Nat→Option aU) (n c k:Nat):(St.mk ob n c).aD k=⟨fun i=>if i<k then ob i else none,k,c⟩:=(rfl)
@[go_sem] theorem RU (sz off:Nat) (y:AV):sub true sz off y=.agg ((y.cells.drop off).take sz):=(rfl)
@[go_sem] theorem RV (sz off:Nat) (y:AV):sub false sz off y=y.cells.getD off .bC:=(rfl)
@[go_sem] theorem Ns (off:Nat) (v:AV) (cs:List AV):gH off v (.agg cs)=.agg (cs.take off++v.cells++cs.drop (off+v.cells.length)):=(rfl)
@[go_sem] theorem N3 (cs:List AV):AD cs []=cs:=(rfl)
@[go_sem] theorem MQ (cs:List AV) (off:Nat) (v:AV) (r:List (Nat × AV)):AD cs ((off,v) :: r)=AD (cs.take off++v.cells++cs.drop (off+v.cells.length)) r:=(rfl)
@[go_sem] theorem MW (cs:List AV):AV.cells (.agg cs)=cs:=(rfl)
@[go_sem] theorem MV (K:IntKind) (n:Int):AV.cells (.int K n)=[.int K n]:=(rfl)
@[go_sem] theorem Lb (b:Bool):AV.cells (.bool b)=[.bool b]:=(rfl)
@[go_sem] theorem K9 (es:Nat) (l:List AV):AV.cells (.list es l)=[.list es l]:=(rfl)
@[go_sem] theorem Oa (id g es o n:Nat):AV.cells (.sl id g es o n)=[.sl id g es o n]:=(rfl)
@[go_sem] theorem Py (id g es o n c:Nat):AV.kK (.fH id g es o n c)=[id]:=(rfl)
@[go_sem] theorem MU (id g es o n:Nat):AV.cells (.ptr id g es o n)=[.ptr id g es o n]:=(rfl)
@[go_sem] theorem La (f:Nat) (l:List AV):AV.cells (.func f l)=[.func f l]:=(rfl)
@[go_sem] theorem N2 (cs:List AV):AV.flat (.agg cs)=cs.all AV.one:=(rfl)
@[go_sem] theorem N1 (K:IntKind) (n:Int):AV.flat (.int K n)=true:=(rfl)
@[go_sem] theorem MN (b:Bool):AV.flat (.bool b)=true:=(rfl)
@[go_sem] theorem ML (es:Nat) (l:List AV):AV.flat (.list es l)=true:=(rfl)
@[go_sem] theorem PL (id g es o n:Nat):AV.flat (.sl id g es o n)=true:=(rfl)
@[go_sem] theorem N0 (id g es o n:Nat):AV.flat (.ptr id g es o n)=true:=(rfl)
@[go_sem] theorem MM (f:Nat) (l:List AV):AV.flat (.func f l)=true:=(rfl)
@[go_sem] theorem Px (K:IntKind) (n:Int):AV.one (.int K n)=true:=(rfl)
@[go_sem] theorem NF (b:Bool):AV.one (.bool b)=true:=(rfl)
@[go_sem] theorem Pw:AV.one .nil=true:=(rfl)
@[go_sem] theorem ND (es:Nat) (l:List AV):AV.one (.list es l)=true:=(rfl)
@[go_sem] theorem Qo (id g es o n:Nat):AV.one (.sl id g es o n)=true:=(rfl)
@[go_sem] theorem Pv (cs:List AV):AV.cL (.agg cs)=cs.all AV.eo:=(rfl)
@[go_sem] theorem NA (f:Nat) (cs:List AV):AV.cL (.func f cs)=cs.all AV.eo:=(rfl)
@[go_sem] theorem Pu (K:IntKind) (n:Int):AV.cL (.int K n)=true:=(rfl)
@[go_sem] theorem Pt (s:ByteArray):AV.cL (.str s)=true:=(rfl)
@[go_sem] theorem Nz (es:Nat) (l:List AV):AV.cL (.list es l)=true:=(rfl)
@[go_sem] theorem Nx (es o n:Nat) (l:List AV):AV.cL (.eQ es l o n)=true:=(rfl)
@[go_sem] theorem NC (K:IntKind) (n:Int):AV.eo (.int K n)=true:=(rfl)
@[go_sem] theorem My (b:Bool):AV.eo (.bool b)=true:=(rfl)
@[go_sem] theorem NB:AV.eo .nil=true:=(rfl)
@[go_sem] theorem Mx (es:Nat) (l:List AV):AV.eo (.list es l)=true:=(rfl)
attribute [go_sem] Nat.zero_add eq_self Int.toNat_zero Int.toNat_one Nat.add_zero Int.toNat_natCast List.getElem?_map Option.map_some List.length_map Int.cast_ofNat_Int decide_true decide_false or_true true_or List.getElem?_cons_zero List.getElem?_cons_succ List.length_cons List.length_nil List.all_cons List.all_nil List.take_succ_cons List.take_zero List.drop_succ_cons List.drop_zero List.take_nil List.drop_nil
 List.cons_append List.nil_append List.append_nil List.getD_cons_zero List.getD_cons_succ List.map_cons List.map_nil List.set_cons_zero List.set_cons_succ
 List.mem_cons List.not_mem_nil forall_eq_or_imp forall_eq Option.some.injEq exists_eq_left' exists_eq_left exists_eq_right exists_eq_right' true_and and_true false_and and_false and_self
 Bool.and_true Bool.true_and Bool.and_self Bool.not_true Bool.not_false true_implies false_implies implies_true IntKind.ctorIdx or_false false_or forall_const if_true if_false not_true_eq_false not_false_eq_true ne_eq
theorem lV {n:Int} (h1:-9223372036854775808≤n) (h2:n≤9223372036854775807):IntKind.i64.wrap n=n:=IntWalk.i64_in n ⟨h1,h2⟩
theorem aw.dv {id g es n:Nat} {ty:TypeId} {ro ap:Bool} {l:List AV} (h:σ.ob id=some ⟨g,es,ty,ro,ap,l⟩) (hn:n=l.length) (hp:∀ x∈l,x.cL=true) (hk:∀ x∈l,mF es x):aw σ (.sl id g es 0 n) (.list es l):=by
 subst hn
 refine .sl h rfl rfl (by simp) (by simp) (fun i x y hx hy=>?_) hk
 simp only [List.drop_zero,List.take_length] at hx
 rw [hx] at hy; obtain rfl:=Option.some.inj hy
 exact .pure (hp x (List.mem_of_getElem? hx))
theorem aw.of_eq {a b:AV} (h:a=b) (hp:b.cL=true):aw σ a b:=by subst h; exact .pure hp
theorem aw.pair {a b a' b':AV} (h1:aw σ a a') (h2:aw σ b b'):aw σ (.tuple [a,b]) (.tuple [a',b']):=by
 refine .tuple rfl fun i x y hx hy=>?_
 match i with
 | 0=>simp at hx hy; subst hx; subst hy; exact h1
 | 1=>simp at hx hy; subst hx; subst hy; exact h2
 | i+2=>simp at hx
theorem aw.three {a b c a' b' c':AV} (h1:aw σ a a') (h2:aw σ b b') (h3:aw σ c c'):aw σ (.tuple [a,b,c]) (.tuple [a',b',c']):=by
 refine .tuple rfl fun i x y hx hy=>?_
 match i with
 | 0=>simp at hx hy; subst hx; subst hy; exact h1
 | 1=>simp at hx hy; subst hx; subst hy; exact h2
 | 2=>simp at hx hy; subst hx; subst hy; exact h3
 | i+3=>simp at hx
theorem ab {f:Nat} {args:List AV} {r:AV} {K:AV→St→Prop} (h:PC P f args r) (ha:∀ a∈args,a.cL=true) (hK:K r σ):HC P f args σ K:=
 (Kw h ha).mono fun _ _ ⟨h1,h2⟩=>by rw [h1,h2]; exact hK
theorem PC.walk {f:Nat} {args:List AV} {vs:List Value} {w:World} (h:PC P f args (.bool true)) (hv:Ml (fun b=>b<w.heap.size) w args vs) :
  Calls P f vs.toArray w fun e w'=>e=.returned (.bool true)∧RowKit.Below w.heap.size w w':=by
 refine (h.2 (fun b=>b<w.heap.size) w vs (fun _ h=>h) hv).mono fun e w' hx=>?_
 obtain ⟨v,S',rfl,hb,_,_,hV⟩:=hx
 cases hV
 exact ⟨rfl,hb⟩
theorem Ml.nil {S:Nat→Prop} {w:World}:Ml S w [] []:=⟨rfl,fun j y u h=>by simp at h⟩
theorem Ml.cons {S:Nat→Prop} {w:World} {a:AV} {v:Value} {as:List AV} {vs:List Value} (h:VP S w a v) (k:Ml S w as vs):Ml S w (a :: as) (v :: vs):=by
 refine ⟨by simp [k.1],fun j y u hy hu=>?_⟩
 cases j with
 | zero=>simp at hy hu; subst hy; subst hu; exact h
 | succ j=>exact k.2 j y u (by simpa using hy) (by simpa using hu)
theorem aM {f:Nat} {args:List AV} {v:AV} {τ:St} {K:AV→St→Prop} (h:HC P f args σ (fun r σ'=>r=v∧σ'=τ)) (hK:K v τ):HC P f args σ K:=
 h.mono fun _ _ ⟨h1,h2⟩=>by rw [h1,h2]; exact hK
inductive Cl (σ:St):List AV→List AV→Prop
 | nil:Cl σ [] []
 | cons {a a':AV} {l l':List AV} (h:aw σ a a') (k:Cl σ l l'):Cl σ (a :: l) (a' :: l')
theorem Cl.get {l l':List AV} (h:Cl σ l l'):l.length=l'.length∧∀ (i:Nat) (x y:AV),l[i]?=some x→l'[i]?=some y→aw σ x y:=by
 induction h with
 | nil=>exact ⟨rfl,fun i x y h=>by simp at h⟩
 | cons h _ ih=>
  refine ⟨by simp [ih.1],fun i x y hx hy=>?_⟩
  cases i with
  | zero=>simp at hx hy; subst hx; subst hy; exact h
  | succ i=>exact ih.2 i x y (by simpa using hx) (by simpa using hy)
theorem rf {f:Nat} {args args':List AV} {r:AV} {K:AV→St→Prop} (h:PC P f args' r) (hp:Cl σ args args') (hs:r.Dc=true) (hK:K r σ):HC P f args σ K:=
 (Cm h hp.get hs).mono fun _ _ ⟨h1,h2⟩=>by rw [h1,h2]; exact hK
end
end Go.Ab
