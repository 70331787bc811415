/- OWN WORK, put together by tools/asm.py, seat.py, mini.py. -/
import Derived.Test.YtcpckngdfjmbgaaGreatBaseT
import Derived.OrdersIn
import Derived.RangeFuncNested
import Derived.RangeFuncLeaves
namespace Go.Ab
open Go.RowKit
section
variable {P : Program} {ro : Option Nat} {n : Nat}
def Fw (ro:Option Nat):Fence:={ Fence.wide with round:=ro }
theorem GS {f:FuncId} {args:Array Value} {w:World} {R:Ending→World→Prop} (h:Calls P f args w R):CallsIn (Fw ro) n P f args w R:=by
 have h1:CallsIn Fence.wide n P f args w R:=callsIn_wide.2 h
 exact h1
theorem HY {row:String} {args:Array Value} {w:World} {R:Value→World→Prop} (h:Rows P row args w R):RowsIn (Fw ro) n P row args w R:=by
 have h1:RowsIn Fence.wide n P row args w R:=fun c cs _=>by
  obtain ⟨v,w',r,s⟩:=h c cs
  exact ⟨v,w',r,stepsIn_wide.2 s⟩
 exact h1
theorem Cx {o:Oper} (ho:∀ c,o.op≠.defer c) {a:Act} {w:World} {K:Act→World→Prop} {Q:Exit→Act→World→Prop} (h:o.wp P a w K Q):o.wpIn (Fw ro) n P a w K Q:=by
 refine ⟨fun f _=>trivial,?_⟩
 rw [Oper.semAt_eq _ _ _ ho]
 unfold Oper.wp at h
 generalize (execOp a.eval o).run P w=r at *
 cases r with
 | ok x w'=>
  cases x <;> simp only [Oper.upon,Oper.uponIn] at h ⊢
  case value=>exact h
  case skip=>exact h
  case defer=>exact h
  case enter f args=>
   refine ⟨fun hd=>by simp [Fw,Fence.wide] at hd,CallsIn.mono (GS h) fun e w' h=>?_⟩
   cases e <;> exact h
  case row row args=>exact ⟨fun hd=>by simp [Fw,Fence.wide] at hd,HY h⟩
 | halt x w'=>cases x <;> simp only [Oper.upon,Oper.uponIn] at h ⊢ <;> exact h
def Nj (K:Act→World→Prop):Exit→Act→World→Prop
 | .normal,a,w=>K a w
 | _,_,_=>False
theorem Nj.lets {K:Act→World→Prop}:¬LetsOut (Nj K):=fun ⟨_,_,h⟩=>h
def Dt (ops:Array Oper):Prop:=∀ (i:Nat) (o:Oper),ops[i]?=some o→∀ c,o.op≠.defer c
theorem ue {ops:Array Oper} (hd:Dt ops) {Q:Exit→Act→World→Prop} (hQ:¬LetsOut Q):∀ (l:List Nat) (a:Act) (w:World),wpOps P ops Q l a w→wpOpsIn (Fw ro) n P ops Q l a w
 | [],_,_,h=>h
 | i :: r,a,w,h=>by
  simp only [wpOps,wpOpsIn] at h ⊢
  cases ho:ops[i]? with
  | none=>simp only [ho] at h ⊢; exact ue hd hQ r a w h
  | some o=>
   simp only [ho] at h ⊢
   split
   ·rename_i hw
    simp only [hw,if_true] at h
    rcases h with h | h
    ·exact Cx (hd i o ho) (Oper.wp_mono (fun a w h=>ue hd hQ r a w h) h)
    ·exact absurd h.2 hQ
   ·rename_i hw
    simp only [hw] at h
    exact ⟨fun f _=>trivial,ue hd hQ r _ w h⟩
theorem Bc {ops:Array Oper} {md:Region.Mode} (hd:Dt ops) {Q:Exit→Act→World→Prop} (hQ:¬LetsOut Q):∀ (fuel:Nat) (listed:Array Bool) (a:Act) (w:World),wpAny P md ops Q fuel listed a w→wpAnyIn (Fw ro) n P md ops Q fuel listed a w
 | 0,_,_,_,h=>h
 | k+1,listed,a,w,h=>by
  refine ⟨h.1,fun i hi=>?_⟩
  have h1:=wpOp_mono (fun a w h=>Bc hd hQ k _ a w h) (h.2 i hi)
  unfold wpOp at h1
  unfold wpOpIn
  cases ho:ops[i]? with
  | none=>simp only [ho] at h1 ⊢; exact h1
  | some o=>
   simp only [ho] at h1 ⊢
   split
   ·rename_i hw
    simp only [hw,if_true] at h1
    rcases h1 with h1 | h1
    ·exact Cx (hd i o ho) h1
    ·exact absurd h1.2 hQ
   ·rename_i hw
    simp only [hw] at h1
    exact ⟨fun f _=>trivial,h1⟩
theorem wV {mt:List Nat} {n:Nat} {ops:Array Oper} {af:List Nat} {o:Oper} {x:aT} (h:cS P mt n ops af o=some x):∀ c,o.op≠.defer c:=by
 intro c hc
 unfold cS at h
 rw [hc] at h
 simp [tl,cU] at h
theorem mc {mt:List Nat} {n:Nat} {ops:Array Oper}:∀ (cl:List (List Nat)) (l:List Oper) (r:List aT),br P mt n ops cl l=some r→∀ (i:Nat) (o:Oper),l[i]?=some o→∀ c,o.op≠.defer c
 | _,[],_,_,_,_,hi=>by cases hi
 | cl,o' :: l,r,h,i,o,hi=>by
  simp only [br] at h
  split at h
  ·rename_i x xs h1 h2
   cases i with
   | zero=>
    simp only [List.getElem?_cons_zero,Option.some.injEq] at hi
    subst hi
    exact wV h1
   | succ i=>exact mc _ l _ h2 i o (by simpa using hi)
  ·cases h
theorem sY {mt:List Nat} {n:Nat} {ops:Array Oper} {cl:List (List Nat)} {l:List aT} (h:br P mt n ops cl ops.toList=some l):Dt ops:=fun i o hi=>
 mc cl ops.toList l h i o (by simpa using hi)
end
end Go.Ab
