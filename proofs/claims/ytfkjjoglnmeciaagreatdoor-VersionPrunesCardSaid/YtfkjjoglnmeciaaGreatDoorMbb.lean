/- part 28 -/
import Derived.Test.YtfkjjoglnmeciaaGreatDoorMae
import Derived.Test.YtfkjjoglnmeciaaGreatDoorMba
set_option maxRecDepth 100000
set_option maxHeartbeats 16000000
namespace Go.Proofs.YtfkjjoglnmeciaaGreatDoor
open Go.Lib (hid)
section
open Go.RowKit Go.Maps
def newI (x:Nat):List VV->Nat
 | []=>0
 | v :: t=>if v.st<=x then 0 else newI x t+1
theorem x6x (x:Nat):∀ (l:List VV) (s:Nat × Bool × Nat × Nat),z7m (atS x) l s=match l[newI x l]? with
  | some v=>(v.st,v.dl,v.dt,hdQ (l.drop (newI x l+1)))
  | none=>s
 | [],s=>rfl
 | v :: t,s=>by
  unfold z7m newI;by_cases h:v.st<=x
  ·have e1:atS x s v.q (v.st,v.dl,v.dt,hdQ t)=((v.st,v.dl,v.dt,hdQ t),false):=if_neg (by show ¬ x < v.st;omega)
   rw [e1,if_pos rfl,if_pos h];rfl
  ·have e1:atS x s v.q (v.st,v.dl,v.dt,hdQ t)=(s,true):=if_pos (by show x < v.st;omega)
   rw [e1,if_neg (show ¬ (true:Bool)=false by decide),if_neg h,x6x x t s];rfl
def atV (x:Nat) (l:List VV):Nat × Nat × Bool × Nat × Nat:=match l[newI x l]? with
 | some v=>if v.dl=true then (5,0,false,0,0) else (0,v.st,v.dl,v.dt,hdQ (l.drop (newI x l+1)))
 | none=>(5,0,false,0,0)
section
variable {K:Nat} {cs:Nat->CS} {cur:Nat->Nat} {l:List VV}
theorem z2r.lt:∀ {l:List VV},z2r K cs cur l->∀ v∈l,v.st < 4611686018427387904
 | [],_,v,hv=>absurd hv (by simp)
 | u :: t,h,v,hv=>by
  rcases List.mem_cons.1 hv with rfl | h1
  ·have:=h.1.sp
   omega
  ·exact h.2.1.lt v h1
theorem z2r.ver:∀ {l:List VV},z2r K cs cur l->∀ v∈l,∃ older,VerA K cs cur v older
 | [],_,v,hv=>absurd hv (by simp)
 | u :: t,h,v,hv=>by
  rcases List.mem_cons.1 hv with rfl | h1
  ·exact ⟨_,h.1⟩
  ·exact h.2.1.ver v h1
theorem z2r.fol {σ:Type} (st:σ->Nat->Nat × Bool × Nat × Nat->σ × Bool) (h:z2r K cs cur l) (hlen:l.length<=4096) (s:σ):folW (verR cur (fun q=>chkR 53 K cs q 7)) st 4097 (hdQ l) 4611686018427387904 0 s=(0,z7m st l s) :=
 y6q st l 4097 4611686018427387904 0 s h h.lt oM oM
theorem x5y (h:z2r K cs cur l) (hlen:l.length<=4096) (x:Nat):atR (verR cur (fun q=>chkR 53 K cs q 7)) (hdQ l) x=atV x l:=by
 have h1:=h.fol (atS x) hlen (0,true,0,0);rw [x6x] at h1;unfold atR atV;rw [h1];show (if (0:Nat)≠0 then _ else _)=_;rw [if_neg (by decide)];cases l[newI x l]? with
 | none=>rfl
 | some v=>rfl
theorem x6y (B:Nat->Nat):∀ l:List VV,(∀ v∈l,v.dl=false->B v.dt=0)->z7m (ckS B) l 0=0
 | [],_=>rfl
 | v :: t,h=>by
  unfold z7m;have e1:ckS B 0 v.q (v.st,v.dl,v.dt,hdQ t)=(0,true):=if_neg (fun hn=>hn.2 (h v (by simp) hn.1));rw [e1,if_neg (by decide)];exact x6y B t (fun u hu=>h u (by simp [hu]))
end
section
variable {a:DA} {L T n K:Nat} {x:HA} {cs:Nat->CS} {f:Nat->Option Nat} {N m b0:Nat} {S:Fp} {cur:Nat->Nat} {w:World} {l:List VV}
theorem x6i (h:z2r K cs cur l) (hd:DS a L T 53 n K x cs f N m b0 S cur w) (hlen:l.length<=4096):vckR (verR cur (fun q=>chkR 53 K cs q 7)) (fun z=>(z1b L cur (fun q=>chkR 53 K cs q 1) z).1) (hdQ l)=0:=by
 have h1:=h.fol (ckS (fun z=>(z1b L cur (fun q=>chkR 53 K cs q 1) z).1)) hlen 0;unfold vckR;rw [h1,x6y _ l (fun v hv hdl=>by
  obtain ⟨Ga,h2⟩:=h.ver v hv;rw [h2.blob hd hdl])]
 rfl
end
def bofR (B:Nat->Nat × List Nat × List Nat) (p:Nat) (dl:Bool) (dt:Nat):List Nat × Nat :=
 if dl=true then ([p],0) else if (B dt).1≠0 then ([],11) else (p :: (B dt).2.1,0)
def z0h (l:List VV):List Nat:=l.flatMap (fun v=>v.q :: v.bl)
section
variable {a:DA} {L T n K:Nat} {x:HA} {cs:Nat->CS} {f:Nat->Option Nat} {N m b0:Nat} {S:Fp} {cur:Nat->Nat} {w:World} {l:List VV}
theorem VerA.bof {v:VV} {older:Nat} (h:VerA K cs cur v older) (hd:DS a L T 53 n K x cs f N m b0 S cur w):bofR (z1b L cur (fun q=>chkR 53 K cs q 1)) v.q v.dl v.dt=(v.q :: v.bl,0):=by
 unfold bofR;cases hdl:v.dl with
 | true =>
  have h1:=h.blen;rw [hdl,if_pos rfl] at h1;rw [if_pos rfl,List.eq_nil_of_length_eq_zero h1]
 | false =>
  rw [if_neg (by decide),h.blob hd hdl];rfl
end
end
section
open Go.RowKit Go.Maps
structure RV where
 v:VV
 B:Option Addr
 nb:Nat
 cb:Nat
 D:Option Addr
 nd:Nat
 cd:Nat
def RV.cells (r:RV):List Value:=[.int .u64 r.v.st,.bool r.v.dl,.int .u64 r.v.q,.slice r.B r.nb r.cb,.slice r.D r.nd r.cd]
def z0u (l:List RV):List Value:=l.flatMap RV.cells
theorem z6x:∀ l:List RV,(z0u l).length=l.length * 5
 | []=>rfl
 | r :: l=>by
  have:=z6x l;simp only [z0u,List.flatMap_cons,List.length_append,List.length_cons] at this ⊢;rw [this];show 5+l.length * 5=_;omega
theorem z3r:∀ (l:List RV) (k j:Nat) (hk:k < l.length),j < 5->(z0u l)[k * 5+j]?=(l[k]).cells[j]?
 | r :: l,0,j,_,hj=>by
  show (r.cells++z0u l)[0 * 5+j]?=r.cells[j]?;rw [Nat.zero_mul,Nat.zero_add,List.getElem?_append_left (show j < 5 from hj)]
 | r :: l,k+1,j,hk,hj=>by
  have hk':k < l.length:=by simpa using hk
  have ih:=z3r l k j hk' hj;show (r.cells++z0u l)[(k+1) * 5+j]?=(l[k]).cells[j]?;rw [List.getElem?_append_right (show (5:Nat)<=(k+1) * 5+j by omega)];show (z0u l)[(k+1) * 5+j - 5]?=_;rw [show (k+1) * 5+j - 5=k * 5+j by omega];exact ih
theorem z2n {w:World} {B n:Nat} {A:Option Addr} {l:List RV} (h:z0c w B 5 A n (z0u l)) {k:Nat} (hk:k < n) :
  ∃ (hl:k < l.length) (b off:Nat),A=some ⟨b,off,none⟩/\b < B/\w.cell? ⟨b,off+k * 5,none⟩=some (.int .u64 ((l[k]).v.st:Int))/\w.cell? ⟨b,off+k * 5+1,none⟩=some (.bool (l[k]).v.dl)/\w.cell? ⟨b,off+k * 5+2,none⟩=some (.int .u64 ((l[k]).v.q:Int))/\w.cell? ⟨b,off+k * 5+3,none⟩=some (.slice (l[k]).B (l[k]).nb (l[k]).cb)/\w.cell? ⟨b,off+k * 5+4,none⟩=some (.slice (l[k]).D (l[k]).nd (l[k]).cd):=by
 have hl:k < l.length:=by have:=h.1;rw [z6x] at this;omega
 obtain ⟨b,off,hA,hb,hc⟩:=h.plain oM oM;exact ⟨hl,b,off,hA,hb,hc (k * 5) _ (z3r l k 0 hl oM),hc (k * 5+1) _ (z3r l k 1 hl oM),hc (k * 5+2) _ (z3r l k 2 hl oM),hc (k * 5+3) _ (z3r l k 3 hl oM),hc (k * 5+4) _ (z3r l k 4 hl oM)⟩
theorem z5l {w:World} {B n:Nat} {A:Option Addr} {l:List RV} (h:z0c w B 5 A n (z0u l)):l.length=n:=by
 have:=h.1;rw [z6x] at this;omega
def vvs (l:List RV):List VV:=l.map RV.v
theorem y4t (x:Nat):∀ l:List VV,newI x l<=l.length
 | []=>nL _
 | v :: t=>by
  unfold newI;split
  ·exact Nat.zero_le _
  ·have:=y4t x t
   rw [List.length_cons];omega
theorem y3b (A:Option Addr) (n c:Nat) (l:List RV) (x:Nat) (w:World) (hr:z0c w w.heap.size 5 A n (z0u l)) (hn:n<=100000) :
  Calls Tryz.prog 134 #[.slice A n c,.int .u64 x] w fun e w'=>e=.returned (.int .i64 (newI x (vvs l):Int))/\Blw w w':=by
 have hl:=z5l hr;have HR:=hid hr;have HL:=hid hl;have Gb:Hid (Blw w w):=Below.refl _ _;have Gc:Hid (newI x (vvs l)=0+newI x (vvs (l.drop 0))):=hid (by rw [Nat.zero_add,List.drop_zero]);clear hr hl;go_enter Tryz.func134,Tryz.ntmps134
 go_wp2;go_loopw [9] (fun v wr=>∃ k:Nat,k<=n/\v=.int .i64 k/\Hid (newI x (vvs l)=k+newI x (vvs (l.drop k)))/\Hid (Blw w wr)) (fun v _=>n - (Go.RowKit.intOf v).toNat)
 case atStart=>exact ⟨0,Nat.zero_le _,rfl,Gc,Gb⟩
 case round =>
  clear Gc Gb;obtain ⟨k,hk,rfl,HN,H⟩:=hrel;by_cases hlt:k < n
  ·obtain ⟨Ge,gb,go,Gf,_,f0,f1,f2,f3,f4⟩:=z2n ((HR.out.below H.out).more H.out.size) (k:=k) hlt
   subst Gf;have HS:Hid (newI x (vvs (l.drop k))=if (l[k]).v.st<=x then 0 else newI x (vvs (l.drop (k+1)))+1):=hid (by
    rw [List.drop_eq_getElem_cons Ge];rfl)
   generalize l[k]=r at *;obtain ⟨v,B,nb,cb,D,nd,cd⟩:=r;obtain ⟨st,dl,q,bl,p⟩:=v;dsimp only at f0 f1 f2 f3 f4 HS;have Gg:(0:Int)<=(k:Int):=oM;have Gh:(k:Int) < (n:Int):=oM;have Gd:=Blk.new wr 101 #[.int .u64 st,.bool dl,.int .u64 q,.slice B nb cb,.slice D nd cd];have g0:(wr.alloc (.cells #[.int .u64 st,.bool dl,.int .u64 q,.slice B nb cb,.slice D nd cd] 101)).cell? ⟨wr.heap.size,0,none⟩=some (.int .u64 st):=Gd.cell 0;have Ga:Hid (Blw w (wr.alloc (.cells #[.int .u64 st,.bool dl,.int .u64 q,.slice B nb cb,.slice D nd cd] 101))):=hid (H.out.alloc H.out.size _);clear Gd Ge;by_cases hx:st<=x
   ·have d1:decide (st<=x)=true:=decide_eq_true hx
    have HF:Hid (newI x (vvs l)=k):=hid (by rw [HN.out,HS.out,if_pos hx];rfl);clear HN HS;go_wp2;go_ret;rw [HF.out];exact ⟨rfl,Ga.out⟩
   ·have d1:decide (st<=x)=false:=decide_eq_false hx
    have HF:Hid (newI x (vvs l)=(k+1)+newI x (vvs (l.drop (k+1)))):=hid (by rw [HN.out,HS.out,if_neg hx];omega);clear HN HS;go_wp2;go_roundw
    case rel =>
     first
      | exact ⟨k+1,oM,by go_num,HF,Ga⟩
      | (
        repeat apply Exists.intro
        refine ⟨?_,rfl⟩;exact ⟨k+1,oM,by go_num,HF,Ga⟩)
    case measure=>simp [Go.RowKit.intOf];omega
  ·obtain rfl:n=k:=oM
   have HF:Hid (newI x (vvs l)=n):=hid (by
    rw [HN.out,List.drop_of_length_le (Nat.le_of_eq HL.out)];rfl)
   clear HN;go_wp2;go_ret;rw [HF.out];exact ⟨rfl,H.out⟩
def Desc (l:List RV):Prop:=∀ i (h:i+1 < l.length),(l[i+1]).v.st < (l[i]).v.st
theorem z9b (A:Option Addr) (n c:Nat) (l:List RV) (w:World) (hr:z0c w w.heap.size 5 A n (z0u l)) (hn:n<=100000) (hd:Desc l) :
  Calls Tryz.prog 139 #[.slice A n c] w fun e w'=>e=.returned (.bool true)/\Blw w w':=by
 have hl:=z5l hr;have HR:=hid hr;have HL:=hid hl;have HD:=hid hd;have Gc:Hid (Blw w w):=Below.refl _ _;clear hr hl hd;go_enter Tryz.func139,Tryz.ntmps139
 go_wp2;go_loopw [3] (fun v wr=>∃ k:Nat,k<=n+1/\1<=k/\v=.int .i64 k/\Hid (Blw w wr)) (fun v _=>n+1 - (Go.RowKit.intOf v).toNat)
 case atStart=>exact ⟨1,oM,nL _,rfl,Gc⟩
 case round =>
  clear Gc;obtain ⟨k,hk,Gj,rfl,H⟩:=hrel;by_cases hlt:k < n
  ·obtain ⟨j,rfl⟩:∃ j,k=j+1:=⟨k - 1,oM⟩
   obtain ⟨Gf,gb,go,Ge,_,f0, -, -, -, -⟩:=z2n ((HR.out.below H.out).more H.out.size) (k:=j+1) hlt;obtain ⟨Gb,Gh,Gi,Ga,_,e0, -, -, -, -⟩:=z2n ((HR.out.below H.out).more H.out.size) (k:=j) oM;rw [Ge] at Ga;injection Ga with e1
   injection e1 with e1 e2
   subst e1 e2;have Gg:=hid (HD.out j Gf);generalize (l[j+1]).v.st=s1 at *;generalize (l[j]).v.st=s0 at *;subst Ge;have hs:=Gg.out;have d1:decide ((s0:Int)<=(s1:Int))=false:=dF;have d2:decide (s0<=s1)=false:=dF;have d3:¬ s0<=s1:=oM;have Gk:(0:Int)<=(j:Int):=oM;have Gl:(j:Int)+1 < (n:Int):=oM;have Gm:(j:Int) < (n:Int):=oM;have Gn:wrap64 ((j:Int)+1 - 1)=(j:Int):=by rw [IntWalk.wrap64_in _ oM];omega
   have Gd:=hid H.out.drew;clear Gf Gb hs;go_wp2;go_region;go_wp2;go_roundw
   case rel =>
    first
     | exact ⟨j+1+1,oM,oM,by go_num,Gd⟩
     | (
       repeat apply Exists.intro
       refine ⟨?_,rfl⟩;exact ⟨j+1+1,oM,oM,by go_num,Gd⟩)
   case measure=>simp [Go.RowKit.intOf];omega
  ·have d0:¬ (k:Int) < (n:Int):=oM
   go_wp2;go_ret;exact ⟨rfl,H.out⟩
def AlV (K:Nat) (cs:Nat->CS) (vl:List VV):Prop:=(∀ q,x2p 53 K cs q↔q∈z0h vl)/\((z0h vl).map pOff).Nodup
theorem z2e (v:VV) (vl:List VV):z0h (v :: vl)=(v.q :: v.bl)++z0h vl:=by
 unfold z0h;rw [List.flatMap_cons]
theorem AlV.nil (K:Nat):AlV K (fun _=>csN) []:=by
 refine ⟨fun q=>⟨?_,fun h=>absurd h (by simp [z0h])⟩,by simp [z0h]⟩;rintro ⟨Ga,k,i,hl⟩;exact absurd hl.at_.2.1 (by simp [csN])
section
variable {a:DA} {L T n K:Nat} {x:HA} {cs cs2:Nat->CS} {f f2:Nat->Option Nat} {N m b0:Nat} {S:Fp} {cur cur2:Nat->Nat} {w:World} {bl ks:List Nat} {V:Nat->Nat} {i:Nat}
theorem AlV.add {v u:Nat} {vv:VV} {vl:List VV} (hd:DS a L T 53 n K x cs2 f2 N m b0 S cur2 w) (hP:Prep K cs f cur cs2 f2 cur2 (bl++[u])) (hA:AOk 53 K cs2 ks (tlOf 53 cs2 (bl++[u])) (dlOf 53 cs2 []) V) (hks:∀ k,k∈ks↔k < K/\(tlOf 53 cs2 (bl++[u]) k≠[]\/dlOf 53 cs2 [] k≠[]))
  (h96:([(3328+8 * i,v)]++ks.flatMap (acW 53 cs2 (tlOf 53 cs2 (bl++[u])) (dlOf 53 cs2 []) V)).length<=96) (hi:i < 8) (h:AlV K cs vl) (e1:vv.q=u) (e2:vv.bl=bl) :
  AlV K (acC cs2 ks (tlOf 53 cs2 (bl++[u])) (dlOf 53 cs2 []) V) (vv :: vl):=by
 subst e1 e2;have Ga:=hP.keepL (cm:=0) hd hA h96 hi;refine ⟨fun r=>?_,?_⟩
 ·rw [z2e,List.mem_append]
  constructor
  ·intro hr
   rcases x1z hA hks hP.rq (fun p hp=>absurd hp (by simp)) hr with h1 | ⟨h1,_⟩
   ·left
    rcases List.mem_append.1 h1 with h2 | h2
    ·exact List.mem_cons_of_mem _ h2
    ·rw [List.mem_singleton.1 h2]
     exact List.mem_cons_self
   ·exact .inr ((h.1 r).1 (hP.fr.alive h1))
  ·rintro (hr | hr)
   ·have hm:r∈vv.bl++[vv.q]:=by
     rcases List.mem_cons.1 hr with h2 | h2
     ·rw [h2]
      simp
     ·exact List.mem_append.2 (.inl h2)
    obtain ⟨kd,c,Gb,Gc⟩:=hP.rq r hm;obtain ⟨k,i,hl,_⟩:=y4z hA hks Gc hm Gb;exact ⟨kd,k,i,hl⟩
   ·obtain ⟨kd,k,i,hl⟩:=(h.1 r).2 hr
    exact ⟨kd,k,i,(Ga r kd k i hl).1⟩
 ·rw [z2e,List.map_append,List.nodup_append]
  refine ⟨?_,h.2,fun x hx y hy e=>?_⟩
  ·have h1:=hP.nd
   rw [List.map_append] at h1;exact (List.perm_append_comm.nodup_iff.1 h1:(List.map pOff [vv.q]++List.map pOff vv.bl).Nodup)
  ·subst e
   obtain ⟨r,hr,rfl⟩:=List.mem_map.1 hy;obtain ⟨kd,k,i,hl⟩:=(h.1 r).2 hr;refine (Ga r kd k i hl).2.2.1 ?_;rw [List.map_append];rw [List.map_cons] at hx;rcases List.mem_cons.1 hx with h2 | h2
   ·rw [h2]
    simp
   ·exact List.mem_append.2 (.inl h2)
end
end
section
open Go.RowKit Go.Maps
theorem y8e (L:Nat) (cur:Nat->Nat) (chk:Nat->Nat):∀ (k p:Nat) (want:Int) (bs by_:List Nat),(z7y L cur chk k p want bs by_).2.1.length<=bs.length+k
 | 0,_,_,bs,_=>Nat.zero_le _
 | k+1,p,want,bs,by_=>by
  unfold z7y;cases z4g L cur p with
  | none=>exact Nat.zero_le _
  | some lr =>
   obtain ⟨l,rest⟩:=lr;show (if _ then _ else _:Nat × List Nat × List Nat).2.1.length<=_;split
   ·exact Nat.zero_le _
   split
   ·exact Nat.zero_le _
   split
   ·show (bs++[p]).length<=_
    rw [List.length_append];simp
   split
   ·exact Nat.zero_le _
   ·have h:=y8e L cur chk k (l.getD 0 0) ((rest:Int) - 456) (bs++[p]) (by_++z5n l rest)
    rw [List.length_append,List.length_singleton] at h;omega
theorem y8f (L:Nat) (cur:Nat->Nat) (chk:Nat->Nat) (p:Nat):(z1b L cur chk p).2.1.length<=6:=by
 unfold z1b;split
 ·exact Nat.zero_le _
 ·have h:=y8e L cur chk 6 p (-1) [] []
  simpa using h
theorem x0w (L:Nat) (cur:Nat->Nat) (chk:Nat->Nat) (p:Nat) (dl:Bool) (dt:Nat):(bofR (z1b L cur chk) p dl dt).1.length<=7:=by
 unfold bofR;split
 ·simp
 split
 ·simp
 ·have h:=y8f L cur chk dt
  simp;omega
def x0s (w:World) (R:List Nat × Nat) (e:Ending) (w':World):Prop:=∃ A m c,e=.returned (.tuple #[.slice A m c,.int .i64 R.2])/\m=R.1.length/\z0c w' w'.heap.size 1 A m (z0a R.1)/\m<=c/\Blw w w'
section
variable {a:DA} {L T s n K:Nat} {x:HA} {cs:Nat->CS} {f:Nat->Option Nat} {N m b0:Nat} {S:Fp} {cur:Nat->Nat} {w:World} {d r:Nat}
theorem w3e (h:SD a L T s n K x cs f N m b0 S cur w d r) (p sp:Nat) (dl:Bool) (dt ol:Nat) (hdt:dt < 18446744073709551616) :
  Calls Tryz.prog 133 #[.iface 59 (.pointer (some ⟨d,0,none⟩)),.int .u64 p,.agg #[.int .u64 sp,.bool dl,.int .u64 dt,.int .u64 ol]] w (x0s w (bofR (z1b L cur (fun q=>chkR s K cs q 1)) p dl dt)):=by
 obtain ⟨W1,Gd⟩:∃ W1,(w.alloc (.cells #[.int .u64 sp,.bool dl,.int .u64 dt,.int .u64 ol] 97)).alloc (.cells #[.int .u64 p] 54)=W1:=⟨_,rfl⟩
 have Gk:(w.alloc (.cells #[.int .u64 sp,.bool dl,.int .u64 dt,.int .u64 ol] 97)).heap.size=w.heap.size+1:=by simp
 have Gj:Blk W1 w.heap.size 97 #[.int .u64 sp,.bool dl,.int .u64 dt,.int .u64 ol]:=by rw [<- Gd];exact (Blk.new w 97 _).alloc _
 have Go:z0c W1 W1.heap.size 1 (some ⟨w.heap.size+1,0,none⟩) 1 (z0a [p]):=by
  rw [<- Gd,<- Gk];exact y0x _ _ _ [p] rfl
 have Gf:W1.ownsRow (w.heap.size+1) 54 1 (.slice (some ⟨w.heap.size+1,0,none⟩) 1 1) 1 (z0a [p]):=by
  refine ⟨rfl,.inr ⟨w.heap.size+1,1,#[.int .u64 p],rfl,nL _,?_,nL _,by unfold maxLen;omega,rfl,rfl⟩⟩;rw [<- Gd,<- Gk];exact heap_alloc_new _ _
 have Gi:Blw w W1:=by rw [<- Gd];exact ((Below.refl _ _).alloc (nL _) _).alloc (by simp) _
 have Gc:=hid Gi;have Gh:=hid Gd;have Gw:=hid Go;have Gv:=hid Gf;have Ge:=hid (y8q (h.below Gi) dt hdt);have Gr:Hid (∀ W',Blw w W'->Calls Tryz.prog 143 #[.iface 59 (.pointer (some ⟨d,0,none⟩))] W' fun e w'=>e=.returned (.int .i64 11)/\W'=w'):=hid (fun W' hW=>z6b (h.below hW));have Gs:Hid ((z1b L cur (fun q=>chkR s K cs q 1) dt).2.1.length<=6):=hid (y8f _ _ _ _);have Ga:Hid (bofR (z1b L cur (fun q=>chkR s K cs q 1)) p dl dt=if dl=true then ([p],0) else if (z1b L cur (fun q=>chkR s K cs q 1) dt).1≠0 then ([],11) else (p :: (z1b L cur (fun q=>chkR s K cs q 1) dt).2.1,0)):=hid rfl;generalize z1b L cur (fun q=>chkR s K cs q 1) dt=R at *;generalize bofR (z1b L cur (fun q=>chkR s K cs q 1)) p dl dt=Y at *;unfold dirV at Ge;have c1:W1.cell? ⟨w.heap.size,1,none⟩=some (.bool dl):=Gj.cell 1;have c2:W1.cell? ⟨w.heap.size,2,none⟩=some (.int .u64 dt):=Gj.cell 2;have Gx:Hid (w.heap.size+1<=W1.heap.size):=hid (by rw [<- Gd];simp);clear h hdt Gj Go Gf Gi Gd Gk;cases dl
 ·by_cases hR:R.1=0
  ·have HY:Hid (Y=(p :: R.2.1,0)):=hid (by rw [Ga.out,if_neg (by decide),if_neg (fun hn=>hn hR)])
   have Gg:Hid (Calls Tryz.prog 31 #[.iface 59 (.pointer (some ⟨d,0,none⟩)),.int .u64 dt] W1 fun e w'=>∃ A m c,e=.returned (.tuple #[.slice A m c,.int .i64 0])/\Hid (m=R.2.1.length/\z0c w' w'.heap.size 1 A m (z0a R.2.1)/\Blw W1 w')):=hid (Ge.out.mono (fun e w' h=>by
    unfold x5n at h;rw [if_pos hR] at h;obtain ⟨A,m,c,h1,h2,h3,h4,h5⟩:=h;exact ⟨A,m,c,h1,hid ⟨h2,h3,h5⟩⟩))
   obtain ⟨i0,Gy,Gz,G0,G1⟩:=info_parts z8c;clear Ge Ga hR;go_enter Tryz.func133,Tryz.ntmps133
   go_upto_region 2 with fail
   rw [Gh.out];go_wp2_with (go_at_call 31;refine Gg.out.mono ?_;rintro e w2 ⟨A2,m2,k2,rfl,hx⟩;have Gb:=hid hx.out;clear hx;refine stop ?_)
   unfold Stop;have Gl:=hid (show m2<=6 by have h1:=Gb.out.1;have h2:=Gs.out;omega);have Gu:Hid (w2.ownsRow (w.heap.size+1) 54 1 (.slice (some ⟨w.heap.size+1,0,none⟩) 1 1) 1 (z0a [p])):=hid (z0r Gv.out Gb.out.2.2);go_wp2_with (at_builtin;refine z0p _ (.tmp 27) (.tmp 28) 40 rfl rfl (w.heap.size+1) 54 i0 _ 1 8 Tryz.underlying40 Gy Gz G0 G1 rfl Nat.one_pos (.slice (some ⟨w.heap.size+1,0,none⟩) 1 1) 1 (z0a [p]) rfl Gu.out _ A2 m2 k2 (z0a R.2.1) rfl Gb.out.2.1 (z2z _) ?q1 ?q2 ?q3 ?_;(case q1=>(have:=Gl.out;unfold maxLen;omega));(case q2=>(have:=Gl.out;omega));(case q3=>(have h1:=Gx.out;have h2:=Gb.out.2.2.size;omega));intro A3 n3 c3 w3 hn3 ho3 hg3 hb3;have Gt:=hid hn3;have Gm:=hid ho3;have Gp:=hid hb3;clear hn3 ho3 hg3 hb3;refine stop ?_)
   unfold Stop;go_wp2;go_ret2;unfold x0s;rw [HY.out];refine ⟨A3,n3,c3,rfl,?_,z0c.of_own Gm.out,(z4z Gm.out).1,?_⟩
   ·have h1:=Gt.out
    have h2:=Gb.out.1;simp;omega
   ·exact (Gc.out.trans (Gb.out.2.2.mono Gc.out.size)).trans (Gp.out.mono (Nat.le_succ _))
  ·have HY:Hid (Y=([],11)):=hid (by rw [Ga.out,if_neg (by decide),if_pos hR])
   have Gg:Hid (Calls Tryz.prog 31 #[.iface 59 (.pointer (some ⟨d,0,none⟩)),.int .u64 dt] W1 fun e w'=>e=.returned (.tuple #[.slice none 0 0,.int .i64 R.1])/\Hid (Blw W1 w')):=hid (Ge.out.mono (fun e w' h=>by
    unfold x5n at h;rw [if_neg hR] at h;exact ⟨h.1,hid h.2⟩))
   obtain ⟨ev,Gn⟩:∃ ev,R.1=ev:=⟨_,rfl⟩
   rw [Gn] at Gg hR;have d1:((ev:Int) != 0)=true:=by rw [bne,beq_eq_false_iff_ne.2 oM];rfl
   clear Ge Ga Gn;go_enter Tryz.func133,Tryz.ntmps133
   go_upto_region 2 with fail
   rw [Gh.out];go_wp2_with (go_at_call 31;refine Gg.out.mono ?_;rintro e w2 ⟨rfl,hx⟩;have Gb:=hid hx.out;clear hx;refine stop ?_)
   unfold Stop;have Gq:=hid (Gr.out w2 (Gc.out.trans (Gb.out.mono Gc.out.size)));go_wp2_with (go_at_call 143;refine Gq.out.mono ?_;rintro e w3 ⟨rfl,rfl⟩)
   go_ret2;unfold x0s;rw [HY.out];exact ⟨none,0,0,rfl,rfl,⟨rfl,fun h=>absurd h (Nat.lt_irrefl 0)⟩,nL _,Gc.out.trans (Gb.out.mono Gc.out.size)⟩
 ·have HY:Hid (Y=([p],0)):=hid (by rw [Ga.out,if_pos rfl])
  clear Ge Ga;go_enter Tryz.func133,Tryz.ntmps133
  go_upto_region 2 with fail
  rw [Gh.out];go_wp2;go_ret2;unfold x0s;rw [HY.out];exact ⟨_,1,1,rfl,rfl,Gw.out,nL _,Gc.out⟩
end
end
section
open Go.RowKit Go.Maps
structure DR where
 gap:Nat
 dl:Bool
 D:Option Addr
 nd:Nat
 cd:Nat
 p:List Nat
def DR.cells (r:DR):List Value:=[.int .u8 r.gap,.bool r.dl,.slice r.D r.nd r.cd]
def z4s (l:List DR):List Value:=l.flatMap DR.cells
def DR.In (w:World) (r:DR):Prop:=z0c w w.heap.size 1 r.D r.nd (u8s r.p)/\(∀ b∈r.p,b < 256)/\r.nd<=r.cd/\r.cd<=9223372036854775807/\r.gap < 256
def x5g (w:World) (A:Option Addr) (n c:Nat) (l:List DR):Prop:=z0c w w.heap.size 3 A n (z4s l)/\n<=c/\c<=9223372036854775807/\∀ r∈l,r.In w
theorem z6u:∀ l:List DR,(z4s l).length=l.length * 3
 | []=>rfl
 | r :: l=>by
  have:=z6u l;simp only [z4s,List.flatMap_cons,List.length_append,List.length_cons] at this ⊢;rw [this];show 3+l.length * 3=_;omega
theorem z6f:∀ (l:List DR) (k j:Nat) (hk:k < l.length),j < 3->(z4s l)[k * 3+j]?=(l[k]).cells[j]?
 | r :: l,0,j,_,hj=>by
  show (r.cells++z4s l)[0 * 3+j]?=r.cells[j]?;rw [Nat.zero_mul,Nat.zero_add,List.getElem?_append_left (show j < 3 from hj)]
 | r :: l,k+1,j,hk,hj=>by
  have hk':k < l.length:=by simpa using hk
  have ih:=z6f l k j hk' hj;show (r.cells++z4s l)[(k+1) * 3+j]?=(l[k]).cells[j]?;rw [List.getElem?_append_right (show (3:Nat)<=(k+1) * 3+j by omega)];show (z4s l)[(k+1) * 3+j - 3]?=_;rw [show (k+1) * 3+j - 3=k * 3+j by omega];exact ih
theorem w0x {w:World} {B n:Nat} {A:Option Addr} {l:List DR} (h:z0c w B 3 A n (z4s l)) {k:Nat} (hk:k < n) :
  ∃ (hl:k < l.length) (b off:Nat),A=some ⟨b,off,none⟩/\b < B/\w.cell? ⟨b,off+k * 3,none⟩=some (.int .u8 ((l[k]).gap:Int))/\w.cell? ⟨b,off+k * 3+1,none⟩=some (.bool (l[k]).dl)/\w.cell? ⟨b,off+k * 3+2,none⟩=some (.slice (l[k]).D (l[k]).nd (l[k]).cd):=by
 have hl:k < l.length:=by have:=h.1;rw [z6u] at this;omega
 obtain ⟨b,off,hA,hb,hc⟩:=h.plain oM oM;exact ⟨hl,b,off,hA,hb,hc (k * 3) _ (z6f l k 0 hl oM),hc (k * 3+1) _ (z6f l k 1 hl oM),hc (k * 3+2) _ (z6f l k 2 hl oM)⟩
theorem w7s {w:World} {B n:Nat} {A:Option Addr} {l:List DR} (h:z0c w B 3 A n (z4s l)):l.length=n:=by
 have:=h.1;rw [z6u] at this;omega
theorem DR.In.below {w w':World} {r:DR} (h:r.In w) (hb:Blw w w'):r.In w':=⟨(h.1.below hb).more hb.size,h.2⟩
def stP (l:List DR):Nat->Nat
 | 0=>0
 | i+1=>stP l i+((l[i]?).map DR.gap).getD 0+(if i=0 then 0 else 1)
theorem w4e (l:List DR) (h:∀ r∈l,r.gap < 256):∀ i,stP l i<=256 * i
 | 0=>nL _
 | i+1=>by
  have ih:=w4e l h i;have h2:((l[i]?).map DR.gap).getD 0<=255:=by
   cases hl:l[i]? with
   | none=>exact Nat.zero_le _
   | some r =>
    have:=h r (List.mem_of_getElem? hl);show r.gap<=255;omega
  unfold stP;split <;> omega
def BgIs (l:List DR) (i:Nat) (rl:List RV):Prop:=rl.length=i/\rl.reverse.map (fun r=>(r.v.st,r.v.dl,r.v.p))=(List.range i).map fun j=>(stP l (j+1),((l[j]?).map DR.dl).getD false,if ((l[j]?).map DR.dl).getD false=true then [] else (((l[j]?).map DR.p).getD []).take 500)
theorem BgIs.nil (l:List DR):BgIs l 0 []:=⟨rfl,rfl⟩
theorem BgIs.add {l:List DR} {i:Nat} {rl:List RV} {r:RV} (h:BgIs l i rl) (hi:i < l.length) (h1:r.v.st=stP l (i+1)) (h2:r.v.dl=(l[i]).dl) (h3:r.v.p=if (l[i]).dl=true then [] else (l[i]).p.take 500):BgIs l (i+1) (r :: rl):=by
 refine ⟨by rw [List.length_cons,h.1],?_⟩;rw [List.reverse_cons,List.map_append,h.2,List.range_succ,List.map_append];congr 1
 simp only [List.map_cons,List.map_nil,List.getElem?_eq_getElem hi,Option.map_some,Option.getD_some,h1,h2,h3]
def OffA (S:Fp) (x:HA) (w:World) (A:Option Addr) (n:Nat):Prop:=0 < n->∀ ad,A=some ad->ad.block < w.heap.size/\¬ sfp S x ad.block
structure HP where
 a:DA
 T:Nat
 x:HA
 y:WA
 cs:Nat->CS
 f:Nat->Option Nat
 N:Nat
 m:Nat
 b0:Nat
 S:Fp
 cur:Nat->Nat
 A:Option Addr
 n:Nat
 c:Nat
 al:List Nat
structure HsJ (w0:World) (k gh:Nat) (rl:List RV) (vl:List VV) (z:HP) (w:World):Prop where
 bw:BW z.a 373 z.T 10 z.x z.y z.cs z.f z.N z.m z.b0 z.S z.cur w
 blk:Blk w gh 92 #[.pointer (some ⟨z.y.g,0,none⟩),.slice z.A z.n z.c]
 rd:z0c w w.heap.size 5 z.A z.n (z0u rl)
 cp:z.n<=z.c
 rin:∀ r∈rl,z0c w w.heap.size 1 r.B r.nb (z0a r.v.bl)/\z0c w w.heap.size 1 r.D r.nd (u8s r.v.p)/\OffA z.S z.x w r.B r.nb/\OffA z.S z.x w r.D r.nd/\r.nd<=r.cd
 rne:∀ r∈rl,(0 < r.nb->∀ ad,r.B=some ad->ad.block≠gh)/\(0 < r.nd->∀ ad,r.D=some ad->ad.block≠gh)
 offA:OffA z.S z.x w z.A z.n
 offg:¬ sfp z.S z.x gh
 hist:z2r 10 z.cs z.cur vl
 link:z.cur 416=hdQ vl
 ali:AlV 10 z.cs vl
 cap:Cap 53 10 z.cs z.f z.al
 room:z3d k 0 z.al
 tm:z.T<=100+5000 * k
 nm:z.N<=20 * k
 old:∀ i,sfp z.S z.x i->w0.heap.size<=i
 ghl:w0.heap.size<=gh
 ord:LoS z.x z.y.d z.y.r z.b0 gh/\z.y.g < gh/\z.y.u < gh/\z.y.m < gh
 below:Blw w0 w
theorem x2f {a:DA} {L T n K:Nat} {x:HA} {cs:Nat->CS} {f:Nat->Option Nat} {N m b0:Nat} {S:Fp} {cur:Nat->Nat} {w:World} {d r:Nat} (h:SD a L T 53 n K x cs f N m b0 S cur w d r) {i:Nat} (hi:sfp S x i):i < w.heap.size:=by
 rcases hi with e | e
 ·exact h.ds.dev.lt _ e
 ·have h1:=h.lo
  have h2:=h1.pl;have h3:=h1.mr;have h4:=h1.mh;have e':i=x.pl\/i=x.mr\/i=x.mh:=e;omega
theorem OffA.grew {S S':Fp} {x:HA} {w w':World} {A:Option Addr} {n:Nat} (h:OffA S x w A n) (hg:Grew S S' w) (hs:w.heap.size<=w'.heap.size):OffA S' x w' A n:=fun hn ad had=>by
 obtain ⟨h1,h2⟩:=h hn ad had;refine ⟨oM,?_⟩;rintro (e | e)
 ·rcases hg _ e with h3 | h3
  ·exact h2 (.inl h3)
  ·omega
 ·exact h2 (.inr e)
theorem OffA.size {S:Fp} {x:HA} {w w':World} {A:Option Addr} {n:Nat} (h:OffA S x w A n) (hs:w.heap.size<=w'.heap.size):OffA S x w' A n:=h.grew (Grew.refl _ _) hs
section
variable {w0 w w':World} {k gh:Nat} {rl:List RV} {vl:List VV} {z:HP}
theorem z1m {Z:Fp} {size n:Nat} {A:Option Addr} {xs:List Value} (hc:Chg Z w w') (hr:z0c w w.heap.size size A n xs) (hS:0 < n->∀ ad,A=some ad->¬ Z ad.block):z0c w' w'.heap.size size A n xs:=by
 by_cases hn:0 < n
 ·exact (hc.reads hr (nL _) (hS hn)).more hc.size
 ·exact ⟨hr.1,fun h=>absurd h hn⟩
theorem HsJ.move (h:HsJ w0 k gh rl vl z w) {T' N' m' k':Nat} {cs':Nat->CS} {f':Nat->Option Nat} {S':Fp} {cur':Nat->Nat} {vl':List VV} {al':List Nat} (hbw:BW z.a 373 T' 10 z.x z.y cs' f' N' m' z.b0 S' cur' w') (hc:Chg (sfp z.S z.x) w w') (hg:Grew z.S S' w)
  (hh:z2r 10 cs' cur' vl') (hl:cur' 416=hdQ vl') (hali:AlV 10 cs' vl') (hcap:Cap 53 10 cs' f' al') (hroom:z3d k' 0 al') (hT:T'<=100+5000 * k') (hN:N'<=20 * k') :
  HsJ w0 k' gh rl vl' ⟨z.a,T',z.x,z.y,cs',f',N',m',z.b0,S',cur',z.A,z.n,z.c,al'⟩ w':=by
 have hs:=hc.size;refine ⟨hbw,hc.blk h.blk h.offg,z1m hc h.rd (fun hn ad had=>(h.offA hn ad had).2),h.cp,fun r hr=>?_,h.rne,h.offA.grew hg hs,?_,hh,hl,hali,hcap,hroom,hT,hN,fun i hi=>?_,h.ghl,h.ord,?_⟩
 ·obtain ⟨r1,r2,r3,r4,r5⟩:=h.rin r hr
  exact ⟨z1m hc r1 (fun hn ad had=>(r3 hn ad had).2),z1m hc r2 (fun hn ad had=>(r4 hn ad had).2),r3.grew hg hs,r4.grew hg hs,r5⟩
 ·rintro (e | e)
  ·rcases hg _ e with h3 | h3
   ·exact h.offg (.inl h3)
   ·have:=h.blk.lt
    omega
  ·exact h.offg (.inr e)
 ·rcases hi with e | e
  ·rcases hg _ e with h3 | h3
   ·exact h.old i (.inl h3)
   ·have:=h.below.size
    omega
  ·exact h.old i (.inr e)
 ·exact h.below.trans (hc.toBelow h.below.size h.old)
theorem HsJ.below_ (h:HsJ w0 k gh rl vl z w) (hb:Blw w w'):HsJ w0 k gh rl vl z w' :=
 h.move (h.bw.below hb) (Chg.of_below hb) (Grew.refl _ _) h.hist h.link h.ali h.cap h.room h.tm h.nm
theorem HsJ.fresh (h:HsJ w0 k gh rl vl z w) {g:Nat} (hg:w.heap.size<=g):¬ sfp z.S z.x g:=fun hz=>by
 have:=x2f h.bw.sd hz;omega
structure AddA (k:Nat) (z:HP) (dl:Bool) (bl p:List Nat) (w wA:World) (T1 N1:Nat) (cs1:Nat->CS) (f1:Nat->Option Nat) (S1:Fp) (cur1:Nat->Nat) (al1:List Nat):Prop where
 sd:SD z.a 373 T1 53 (32 * 10) 10 z.x cs1 f1 N1 (z.m+bl.length) z.b0 S1 cur1 wA z.y.d z.y.r
 prep:Prep 10 z.cs z.f z.cur cs1 f1 cur1 bl
 words:∀ j (hj:j < bl.length),z2t cur1 bl[j] (payL (bl.getD (j+1) 0) (p.drop (456 * j)))/\Rq 53 10 cs1 f1 1 bl[j] (z1e (z1c (p.length - 456 * j)))
 blen:bl.length=if dl=true then 0 else nBlk p.length
 cap:Cap 53 10 cs1 f1 al1
 room:z3d k 1 al1
 chg:Chg (sfp z.S z.x) w wA
 grew:Grew z.S S1 w
 tm:T1<=z.T+3000
 nm:N1<=z.N+10
theorem z3d.more {k:Nat} {al:List Nat} (h:z3d k 0 al):z3d k 1 al:=by
 obtain ⟨h0,h1,h2,h3,h4⟩:=h;unfold z3d;omega
theorem AddA.none (h:HsJ w0 k gh rl vl z w) (hb:Blw w w'):AddA k z true [] [] w w' z.T z.N z.cs z.f z.S z.cur z.al :=
 ⟨h.bw.sd.below hb,Prep.nil,fun j hj=>absurd hj (Nat.not_lt_zero j),rfl,h.cap,h.room.more,Chg.of_below hb,Grew.refl _ _,Nat.le_add_right _ _,Nat.le_add_right _ _⟩
theorem y0l {p:List Nat} (hp:p.length<=500):nBlk p.length<=2:=by
 unfold nBlk;split <;> omega
theorem AddA.some_ {bl p:List Nat} {cs1:Nat->CS} {f1:Nat->Option Nat} {S1:Fp} {cur1:Nat->Nat} (h:HsJ w0 k gh rl vl z w) (hp:p.length<=500) (hlen:bl.length=nBlk p.length) (hw:W2 53 10 z.cs z.f z.cur z.al p cs1 f1 cur1 bl bl.length)
  (hsd:SD z.a 373 (z.T+3000) 53 (32 * 10) 10 z.x cs1 f1 (z.N+bl.length) (z.m+bl.length) z.b0 S1 cur1 w' z.y.d z.y.r) (hc:Chg (sfp z.S z.x) w w') (hg:Grew z.S S1 w):AddA k z false bl p w w' (z.T+3000) (z.N+bl.length) cs1 f1 S1 cur1 (alW p.length z.al (nBlk p.length)):=by
 have h2:=y0l hp;refine ⟨hsd,Prep.of2 hw,fun j hj=>⟨hw.words j hj hj,hw.w1.rq j hj⟩,hlen,?_,h.room.blob hp,hc,hg,nL _,oM⟩;rw [<- hlen];exact hw.w1.cap
variable {dl:Bool} {bl p:List Nat} {wA wB wC wD wE:World} {T1 N1:Nat} {cs1:Nat->CS} {f1:Nat->Option Nat} {S1:Fp} {cur1:Nat->Nat} {al1:List Nat}
structure AddB (k:Nat) (z:HP) (st:Nat) (dl:Bool) (bl p:List Nat) (older q:Nat) (w wA:World) (T1 N1:Nat) (cs1:Nat->CS) (f1:Nat->Option Nat) (S1:Fp) (cur1:Nat->Nat) (al1:List Nat):Prop where
 sd:SD z.a 373 T1 53 (32 * 10) 10 z.x cs1 f1 N1 (z.m+(bl++[q]).length) z.b0 S1 cur1 wA z.y.d z.y.r
 prep:Prep 10 z.cs z.f z.cur cs1 f1 cur1 (bl++[q])
 words:∀ j (hj:j < bl.length),z2t cur1 bl[j] (payL (bl.getD (j+1) 0) (p.drop (456 * j)))/\Rq 53 10 cs1 f1 1 bl[j] (z1e (z1c (p.length - 456 * j)))
 ver:z2t cur1 q [wSt st dl,bl.headD 0,older]/\Rq 53 10 cs1 f1 7 q 0
 blen:bl.length=if dl=true then 0 else nBlk p.length
 cap:Cap 53 10 cs1 f1 al1
 room:z3d (k+1) 0 al1
 chg:Chg (sfp z.S z.x) w wA
 grew:Grew z.S S1 w
 tm:T1<=z.T+3600
 nm:N1<=z.N+11
theorem AddA.cap_has (h:AddA k z dl bl p w wA T1 N1 cs1 f1 S1 cur1 al1) (hk:k < 8):(∃ k i,Vac 53 10 cs1 f1 (z1e 3) k i)\/∃ k,k < 10/\(cs1 k).dv=false :=
 h.cap.has (cl:=z1e 3) (by decide) (x2b (j:=0) oM (h.room.ver (nL _)))
theorem AddA.plan {st older q kk ii:Nat} {cs2:Nat->CS} {S2:Fp} {cur2:Nat->Nat} (h:AddA k z dl bl p w wA T1 N1 cs1 f1 S1 cur1 al1) (hq:fptr 53 cs2 7 kk ii=q) (ho:z9g 53 10 cs1 f1 cur1 0 cs2 cur2 kk ii)
  (hsd:SD z.a 373 (T1+400+200) 53 (32 * 10) 10 z.x cs2 (updF f1 (offO 53 cs2 kk ii) (some q)) (N1+1) (z.m+bl.length+1) z.b0 S2 (wrS cur2 (pwW (pOff q) [wSt st dl,bl.headD 0,older])) wB z.y.d z.y.r) (hc:Chg (sfp S1 z.x) wA wB) (hg:Grew S1 S2 wA)
  (hr:Rq 53 10 cs2 (updF f1 (offO 53 cs2 kk ii) (some q)) 7 q 0) (hat:At 53 10 cs2 q kk ii) :
  AddB k z st dl bl p older q w wB (T1+400+200) (N1+1) cs2 (updF f1 (offO 53 cs2 kk ii) (some q)) S2 (wrS cur2 (pwW (pOff q) [wSt st dl,bl.headD 0,older])) (0 :: al1):=by
 have Ga:(cs2 kk).cl=0:=ho.vac.2.2.1;obtain ⟨h1,h2⟩:=h.prep.add h.sd.ds ho (by decide) (by decide) hq hr hat (l:=[wSt st dl,bl.headD 0,older]) (by rw [Ga];exact nL 3);refine ⟨?_,h1,fun j hj=>?_,⟨y7w,hr⟩,h.blen,?_,h.room.ver (nL _),?_,?_,by have:=h.tm;omega,by have:=h.nm;omega⟩
 ·rw [List.length_append]
  exact hsd
 ·obtain ⟨g1,g2⟩:=h.words j hj
  refine ⟨g2.words h2 ?_ g1,(g2.step h.sd.ds (by decide) ho).1⟩;rw [z3n,List.length_drop,z5q];exact nL _
 ·exact h.cap.alloc h.sd.ds (by decide) ho
 ·refine h.chg.trans hc (fun i hi=>?_)
  rcases hi with e | e
  ·rcases h.grew i e with e1 | e1
   ·exact .inl (.inl e1)
   ·exact .inr e1
  ·exact .inl (.inr e)
 ·exact h.grew.trans hg h.chg.size
variable {st older q:Nat}
theorem AddB.below_ (h:AddB k z st dl bl p older q w wA T1 N1 cs1 f1 S1 cur1 al1) (hb:Blw wA wB):AddB k z st dl bl p older q w wB T1 N1 cs1 f1 S1 cur1 al1 :=
 { h with sd:=h.sd.below hb,chg:=h.chg.below hb }
theorem AddB.keep_ok (h:AddB k z st dl bl p older q w wA T1 N1 cs1 f1 S1 cur1 al1):∀ r∈bl++[q],y0b 53 10 cs1 f1 r:=fun r hr=>by
 obtain ⟨kd,c,_,h3⟩:=h.prep.rq r hr;exact h3.keep
theorem AddB.q_ok (h:AddB k z st dl bl p older q w wA T1 N1 cs1 f1 S1 cur1 al1):q≠0/\q < 18446744073709551616/\z1t q=7:=⟨h.ver.2.keep.nz.1,h.ver.2.keep.nz.2,h.ver.2.kind_⟩
theorem AddB.set (h:AddB k z st dl bl p older q w wA T1 N1 cs1 f1 S1 cur1 al1) (hj:HsJ w0 k gh rl vl z w) (hold:older=hdQ vl) (hst:st<=4611686018427387903) (hlt:∀ u∈vl,u.st < st) (hp:∀ b∈p,b < 256) (hp2:p.length<=500) {e:Ending} {n1:Nat} (hn1:n1=(bl++[q]).length)
  (hpub:z7c z.a 373 T1 53 (32 * 10) 10 z.x cs1 f1 N1 (z.m+(bl++[q]).length) z.b0 S1 cur1 wA z.y.d z.y.r [(3328+8 * 0,q)] (bl++[q]) [] n1 e wB) :
  ∃ z',HsJ w0 (k+1) gh rl (⟨st,dl,q,bl,p⟩ :: vl) z' wB/\z'.a=z.a/\z'.x=z.x/\z'.y=z.y/\z'.A=z.A/\z'.n=z.n/\z'.c=z.c/\Chg (sfp S1 z.x) wA wB/\Grew S1 z'.S wA:=by
 obtain ⟨ks,V,cm,S3,_,hA,Gd,Gn,Ga,Gl,Gh,Gj⟩:=hpub;have Gb:=h.prep.keepL (i:=0) (v:=q) (cm:=cm) h.sd.ds hA Ga (by decide);have Gc:=w2o (i:=0) (cm:=cm) h.sd.ds hA (by decide) h.q_ok.2.1;have Gg:Chg (sfp z.S z.x) w wB:=h.chg.trans Gh (fun i hi=>by
  rcases hi with e1 | e1
  ·rcases h.grew i e1 with e2 | e2
   ·exact .inl (.inl e2)
   ·exact .inr e2
  ·exact .inl (.inr e1))
 have Gi:Grew z.S S3 w:=h.grew.trans Gj h.chg.size;have Ge:rdG 0 cur1 ([(3328+8 * 0,q)]++ks.flatMap (acW 53 cs1 (tlOf 53 cs1 (bl++[q])) (dlOf 53 cs1 []) V)) cm (8 * 26)=0:=by
  refine (z5b h.sd.ds oM hA Ga (.inr oM) (fun e he=>?_) (fun k hk e he heq=>?_)).trans ((h.prep.fr.head _ oM).trans hj.bw.uid)
  ·simp at he
   subst he;show 3328 / 8≠_;omega
  ·obtain ⟨_,h2,_,h4,_⟩:=hA.at_ hk he
   have:=z9r h2;omega
 have Gk:=hj.bw.keep Gl Gg Gi Ge;have h2:=y0l hp2;have Gm:bl.length<=2:=by
  have h3:=h.blen;split at h3 <;> omega
 have Gf:VerA 10 (acC cs1 ks (tlOf 53 cs1 (bl++[q])) (dlOf 53 cs1 []) V) (rdG 0 cur1 ([(3328+8 * 0,q)]++ks.flatMap (acW 53 cs1 (tlOf 53 cs1 (bl++[q])) (dlOf 53 cs1 []) V)) cm) ⟨st,dl,q,bl,p⟩ (hdQ vl):=by
  obtain ⟨⟨k1,i1,g1,g2⟩,g3⟩:=y7v (i:=0) (v:=q) (cm:=cm) h.sd.ds hA Gd Ga (by decide) h.ver.2 (by simp) (by decide) (show [wSt st dl,bl.headD 0,older].length<=payW 0 from nL 3) h.ver.1;refine ⟨⟨k1,i1,g1,g2⟩,?_,h.blen,fun j hj'=>?_,hp,by show p.length<=2000;omega,hst⟩
  ·rw [<- hold]
   exact g3
  ·obtain ⟨w1,w2⟩:=h.words j hj'
   obtain ⟨⟨k2,i2,q1,q2⟩,q3⟩:=y7v (i:=0) (v:=q) (cm:=cm) h.sd.ds hA Gd Ga (by decide) w2 (List.mem_append.2 (.inl (List.getElem_mem hj'))) (by decide) (by rw [z3n,List.length_drop,z5q];exact nL _) w1;refine ⟨⟨k2,i2,q1,?_⟩,q3⟩;rw [q2,z5q,List.length_drop]
 refine ⟨⟨z.a,T1+800,z.x,z.y,_,_,N1+n1,_,z.b0,S3,_,z.A,z.n,z.c,al1⟩,hj.move Gk Gg Gi ⟨Gf,hj.hist.keep Gb,hlt⟩ Gc (AlV.add (i:=0) (v:=q) h.sd.ds h.prep hA Gd Ga (by decide) hj.ali rfl rfl) (h.cap.pub h.keep_ok (free:=[]) (fun q hq=>absurd hq (by simp))) h.room (by have:=h.tm;have:=hj.tm;omega) (by have:=h.nm;have:=hj.nm;rw [hn1,List.length_append];simp;omega),rfl,rfl,rfl,rfl,rfl,rfl,Gh,Gj⟩
theorem AddB.chg_ {Z:Fp} (h:AddB k z st dl bl p older q w wA T1 N1 cs1 f1 S1 cur1 al1) (hj:HsJ w0 k gh rl vl z w) (hc:Chg Z wA wB) (hZ:∀ i,Z i->¬ S1 i/\w.heap.size<=i):AddB k z st dl bl p older q w wB T1 N1 cs1 f1 S1 cur1 al1 :=
 { h with sd:=h.sd.chg hj.bw.sd.lo hc hZ,chg:=h.chg.trans hc (fun i hi => .inr (hZ i hi).2) }
theorem AddA.dt_ok (h:AddA k z dl bl p w wA T1 N1 cs1 f1 S1 cur1 al1):dl=decide (bl.headD 0=0)/\bl.headD 0 < 18446744073709551616:=by
 have h1:=h.blen;cases hd:dl with
 | true =>
  rw [hd,if_pos rfl] at h1;rw [List.eq_nil_of_length_eq_zero h1];exact ⟨rfl,by decide⟩
 | false =>
  rw [hd,if_neg (by decide)] at h1;have h2:=z4h p;have h3:0 < bl.length:=oM;obtain ⟨_,g1⟩:=h.words 0 h3;rw [z5s _ h3];exact ⟨(decide_eq_false g1.keep.nz.1).symm,g1.keep.nz.2⟩
theorem HsJ.chg_ {Z:Fp} (h:HsJ w0 k gh rl vl z w) (hc:Chg Z w w') (hZ:∀ i,Z i->¬ sfp z.S z.x i/\gh < i/\(0 < z.n->∀ ad,z.A=some ad->ad.block≠i)/\∀ r∈rl,(0 < r.nb->∀ ad,r.B=some ad->ad.block≠i)/\(0 < r.nd->∀ ad,r.D=some ad->ad.block≠i)):HsJ w0 k gh rl vl z w':=by
 obtain ⟨o1,o2,o3,o4⟩:=h.ord;have hs:=hc.size;have hg:∀ g,g<=gh->¬ Z g:=fun g hg hz=>by have:=(hZ g hz).2.1;omega
 have Gb:SD z.a 373 z.T 53 (32 * 10) 10 z.x z.cs z.f z.N z.m z.b0 z.S z.cur w' z.y.d z.y.r:=h.bw.sd.chg o1 hc (fun i hi=>⟨fun e=>(hZ i hi).1 (.inl e),Nat.le_of_lt (hZ i hi).2.1⟩);have Ga:BW z.a 373 z.T 10 z.x z.y z.cs z.f z.N z.m z.b0 z.S z.cur w':={ h.bw with sd:=Gb,blk:=hc.blk h.bw.blk (hg _ oM),und:=hc.blk h.bw.und (hg _ oM),mgr:=hc.blk h.bw.mgr (hg _ oM) }
 refine ⟨Ga,hc.blk h.blk (hg _ (nL _)),z1m hc h.rd (fun hn ad had hz=>(hZ _ hz).2.2.1 hn ad had rfl),h.cp,fun r hr=>?_,h.rne,h.offA.size hs,h.offg,h.hist,h.link,h.ali,h.cap,h.room,h.tm,h.nm,h.old,h.ghl,h.ord,?_⟩
 ·obtain ⟨r1,r2,r3,r4,r5⟩:=h.rin r hr
  exact ⟨z1m hc r1 (fun hn ad had hz=>((hZ _ hz).2.2.2 r hr).1 hn ad had rfl),z1m hc r2 (fun hn ad had hz=>((hZ _ hz).2.2.2 r hr).2 hn ad had rfl),r3.size hs,r4.size hs,r5⟩
 ·exact h.below.trans (hc.toBelow h.below.size (fun i hi=>by have:=(hZ i hi).2.1;have:=h.ghl;omega))
structure RvIn (S:Fp) (x:HA) (w:World) (r:RV):Prop where
 rb:z0c w w.heap.size 1 r.B r.nb (z0a r.v.bl)
 rd:z0c w w.heap.size 1 r.D r.nd (u8s r.v.p)
 ob:OffA S x w r.B r.nb
 od:OffA S x w r.D r.nd
 cd:r.nd<=r.cd
theorem RvIn.move {S S':Fp} {x:HA} {r:RV} (h:RvIn S x w r) (hc:Chg (sfp S x) w w') (hg:Grew S S' w):RvIn S' x w' r :=
 ⟨z1m hc h.rb (fun hn ad had=>(h.ob hn ad had).2),z1m hc h.rd (fun hn ad had=>(h.od hn ad had).2),h.ob.grew hg hc.size,h.od.grew hg hc.size,h.cd⟩
theorem RvIn.chg {S Z:Fp} {x:HA} {r:RV} (h:RvIn S x w r) (hc:Chg Z w w') (hb:0 < r.nb->∀ ad,r.B=some ad->¬ Z ad.block) (hd:0 < r.nd->∀ ad,r.D=some ad->¬ Z ad.block):RvIn S x w' r :=
 ⟨z1m hc h.rb hb,z1m hc h.rd hd,h.ob.size hc.size,h.od.size hc.size,h.cd⟩
theorem HsJ.push {r:RV} {A':Option Addr} {n' c':Nat} (h:HsJ w0 k gh rl (r.v :: vvs rl) z w) (hr:RvIn z.S z.x w r) (hb:Blw w w') (ho:w'.ownsRow w.heap.size 101 5 (.slice A' n' c') n' (z0u (r :: rl))) (hrne:0 < r.nb->∀ ad,r.B=some ad->ad.block≠gh) (hrne2:0 < r.nd->∀ ad,r.D=some ad->ad.block≠gh) :
  HsJ w0 k gh (r :: rl) (vvs (r :: rl)) { z with A:=A',n:=n',c:=c' } (w'.setCell ⟨gh,1,none⟩ (.slice A' n' c')):=by
 have h1:=h.below_ hb;obtain ⟨o1,o2,o3,o4⟩:=h.ord;have hz:Chg (fun i=>i=gh) w' (w'.setCell ⟨gh,1,none⟩ (.slice A' n' c')):=(Chg.refl (fun i=>i=gh) w').setCell (p:=⟨gh,1,none⟩) (.inl rfl) _;have Ga:=ho.lt;have Gf:=h.blk.lt;have hs:=hz.size;have Ge:=hb.size;have Gd:SD z.a 373 z.T 53 (32 * 10) 10 z.x z.cs z.f z.N z.m z.b0 z.S z.cur (w'.setCell ⟨gh,1,none⟩ (.slice A' n' c')) z.y.d z.y.r:=h1.bw.sd.chg o1 hz (fun i hi=>by
  have e:i=gh:=hi;subst e;exact ⟨fun e=>h1.offg (.inl e),nL _⟩)
 have Gc:BW z.a 373 z.T 10 z.x z.y z.cs z.f z.N z.m z.b0 z.S z.cur (w'.setCell ⟨gh,1,none⟩ (.slice A' n' c')):={ h1.bw with sd:=Gd,blk:=hz.blk h1.bw.blk (by show ¬ z.y.g=gh;omega),und:=hz.blk h1.bw.und (by show ¬ z.y.u=gh;omega),mgr:=hz.blk h1.bw.mgr (by show ¬ z.y.m=gh;omega) }
 refine ⟨Gc,h1.blk.set_ 1 _,?_,(z4z ho).1,fun u hu=>?_,fun u hu=>?_,fun hn ad had=>?_,h1.offg,h1.hist,h1.link,h1.ali,h1.cap,h1.room,h1.tm,h1.nm,h1.old,h1.ghl,h1.ord,?_⟩
 ·refine (hz.reads (z0c.of_own ho) (nL _) (fun ad had e=>?_)).more hs
  have:=Ga ad.block (by rw [had];rfl);omega
 ·rcases List.mem_cons.1 hu with e | e
  ·subst e
   have h2:=(hr.move (Chg.of_below hb) (Grew.refl _ _)).chg hz hrne hrne2;exact ⟨h2.rb,h2.rd,h2.ob,h2.od,h2.cd⟩
  ·obtain ⟨r1,r2,r3,r4,r5⟩:=h1.rin u e
   exact ⟨z1m hz r1 (h1.rne u e).1,z1m hz r2 (h1.rne u e).2,r3.size hs,r4.size hs,r5⟩
 ·rcases List.mem_cons.1 hu with e | e
  ·subst e
   exact ⟨hrne,hrne2⟩
  ·exact h1.rne u e
 ·have Gb:A'=some ad:=had
  have h2:=Ga ad.block (by rw [Gb];rfl);exact ⟨oM,fun e=>by have:=x2f h.bw.sd e;omega⟩
 ·exact h1.below.trans (hz.toBelow h1.below.size (fun i hi=>by have e:i=gh:=hi;have:=h1.ghl;omega))
end
end
section
open Go.RowKit Go.Maps
structure PrS where
 found:Bool
 cut:Nat
 l:List Nat
 bad:Nat
def prS (old:Nat) (walk:Nat->Nat × List Nat × List Nat) (s:PrS) (p:Nat) (v:Nat × Bool × Nat × Nat):PrS × Bool :=
 if s.found=false/\(decide (v.1<=old)=false\/v.2.1=false) then (⟨decide (v.1<=old),p,s.l,s.bad⟩,true)
 else (⟨true,s.cut,s.l++(bofR walk p v.2.1 v.2.2.1).1,(bofR walk p v.2.1 v.2.2.1).2⟩,decide ((bofR walk p v.2.1 v.2.2.1).2=0))
structure PrR (d g old:Nat) (s:PrS) (A:Option Addr) (m c:Nat) (W:World):Prop where
 sp:Blk W g 83 #[.iface 59 (.pointer (some ⟨d,0,none⟩))]
 od:Blk W (g+1) 32 #[.int .u64 old]
 all:Blk W (g+2) 40 #[.slice A m c]
 cu:Blk W (g+3) 54 #[.int .u64 s.cut]
 fo:Blk W (g+4) 4 #[.bool s.found]
 bad:Blk W (g+5) 55 #[.int .i64 s.bad]
 own:W.ownsRow (g+6) 54 1 (.slice A m c) m (z0a s.l)
def PrRs (d g old:Nat) (s:PrS) (W:World):Prop:=∃ A m c,PrR d g old s A m c W
def PrZ (g:Nat) (W:World):Fp:=fun k=>k=g+2\/k=g+3\/k=g+4\/k=g+5\/∃ A m c,W.cell? ⟨g+2,0,none⟩=some (.slice A m c)/\(Value.slice A m c).ownBlock=some k
theorem PrR.below {d g old:Nat} {s:PrS} {A:Option Addr} {m c:Nat} {W W':World} (h:PrR d g old s A m c W) (hb:Blw W W'):PrR d g old s A m c W' :=
 ⟨h.sp.below hb h.sp.lt,h.od.below hb h.od.lt,h.all.below hb h.all.lt,h.cu.below hb h.cu.lt,h.fo.below hb h.fo.lt,h.bad.below hb h.bad.lt,z0r h.own hb⟩
theorem PrR.z {d g old:Nat} {s:PrS} {A:Option Addr} {m c:Nat} {W:World} (h:PrR d g old s A m c W) {k:Nat} (hz:PrZ g W k):k=g+2\/k=g+3\/k=g+4\/k=g+5\/(Value.slice A m c).ownBlock=some k:=by
 rcases hz with e | e | e | e | ⟨A2,m2,c2,h1,h2⟩
 ·exact .inl e
 ·exact .inr (.inl e)
 ·exact .inr (.inr (.inl e))
 ·exact .inr (.inr (.inr (.inl e)))
 ·have h3:=h.all.cell 0
  rw [h1] at h3;have h4:Value.slice A2 m2 c2=.slice A m c:=by injection h3
  rw [h4] at h2;exact .inr (.inr (.inr (.inr h2)))
theorem PrR.zin {d g old:Nat} {s:PrS} {A:Option Addr} {m c:Nat} {W:World} (h:PrR d g old s A m c W) {k:Nat} (hk:k=g+2\/k=g+3\/k=g+4\/k=g+5\/(Value.slice A m c).ownBlock=some k):PrZ g W k:=by
 rcases hk with e | e | e | e | e
 ·exact .inl e
 ·exact .inr (.inl e)
 ·exact .inr (.inr (.inl e))
 ·exact .inr (.inr (.inr (.inl e)))
 ·exact .inr (.inr (.inr (.inr ⟨A,m,c,h.all.cell 0,e⟩)))
theorem PrR.setF {d g old:Nat} {s:PrS} {A:Option Addr} {m c:Nat} {W:World} (h:PrR d g old s A m c W) (b:Bool):PrR d g old ⟨b,s.cut,s.l,s.bad⟩ A m c (W.setCell ⟨g+4,0,none⟩ (.bool b)):=by
 have hc:Chg (fun k=>k=g+4) W (W.setCell ⟨g+4,0,none⟩ (.bool b)):=(Chg.refl (fun k=>k=g+4) W).setCell (p:=⟨g+4,0,none⟩) (.inl rfl) _;exact ⟨hc.blk h.sp oM,hc.blk h.od oM,hc.blk h.all oM,hc.blk h.cu oM,h.fo.set_ 0 _,hc.blk h.bad oM,hc.own h.own (fun k hk e=>by have h1:=(h.own.lt k hk).1;omega)⟩
theorem PrR.setC {d g old:Nat} {s:PrS} {A:Option Addr} {m c:Nat} {W:World} (h:PrR d g old s A m c W) (p:Nat):PrR d g old ⟨s.found,p,s.l,s.bad⟩ A m c (W.setCell ⟨g+3,0,none⟩ (.int .u64 p)):=by
 have hc:Chg (fun k=>k=g+3) W (W.setCell ⟨g+3,0,none⟩ (.int .u64 p)):=(Chg.refl (fun k=>k=g+3) W).setCell (p:=⟨g+3,0,none⟩) (.inl rfl) _;exact ⟨hc.blk h.sp oM,hc.blk h.od oM,hc.blk h.all oM,h.cu.set_ 0 _,hc.blk h.fo oM,hc.blk h.bad oM,hc.own h.own (fun k hk e=>by have h1:=(h.own.lt k hk).1;omega)⟩
theorem PrZ.setF {d g old:Nat} {s:PrS} {A:Option Addr} {m c:Nat} {W:World} (h:PrR d g old s A m c W) (b:Bool):Chg (PrZ g W) W (W.setCell ⟨g+4,0,none⟩ (.bool b)) :=
 (Chg.refl (PrZ g W) W).setCell (p:=⟨g+4,0,none⟩) (.inl (h.zin (.inr (.inr (.inl rfl))))) _
theorem PrZ.setC {d g old:Nat} {s:PrS} {A:Option Addr} {m c:Nat} {W:World} (h:PrR d g old s A m c W) (p:Nat):Chg (PrZ g W) W (W.setCell ⟨g+3,0,none⟩ (.int .u64 p)) :=
 (Chg.refl (PrZ g W) W).setCell (p:=⟨g+3,0,none⟩) (.inl (h.zin (.inr (.inl rfl)))) _
section
variable {a:DA} {L T s n K:Nat} {x:HA} {cs:Nat->CS} {f:Nat->Option Nat} {N m b0:Nat} {S:Fp} {cur:Nat->Nat} {w:World} {d r:Nat}
theorem w3h {W:World} (old p sp:Nat) (dl:Bool) (dt ol g:Nat) (h:SD a L T s n K x cs f N m b0 S cur w d r) (hW:Blw w W) (hg:w.heap.size<=g) (q:PrS) (hp:p < 18446744073709551616) (hdt:dt < 18446744073709551616) (hR:PrRs d g old q W) (hfew:q.l.length<=100000) :
  Calls Tryz.prog 132 #[.int .u64 p,.agg #[.int .u64 sp,.bool dl,.int .u64 dt,.int .u64 ol],.pointer (some ⟨g+4,0,none⟩),.pointer (some ⟨g+1,0,none⟩),.pointer (some ⟨g+3,0,none⟩),.pointer (some ⟨g,0,none⟩),.pointer (some ⟨g+2,0,none⟩),.pointer (some ⟨g+5,0,none⟩)] W fun e w'=>e=.returned (.bool (prS old (z1b L cur (fun q=>chkR s K cs q 1)) q p (sp,dl,dt,ol)).2)/\PrRs d g old (prS old (z1b L cur (fun q=>chkR s K cs q 1)) q p (sp,dl,dt,ol)).1 w'/\Chg (PrZ g W) W w':=by
 obtain ⟨A,mm,c,hR⟩:=hR;obtain ⟨qf,qc,ql,qb⟩:=q;have G7:ql.length=mm:=by have h1:=hR.own.1;simpa [z0a] using h1
 obtain ⟨W1,Gr⟩:∃ W1,W.alloc (.cells #[.int .u64 sp,.bool dl,.int .u64 dt,.int .u64 ol] 97)=W1:=⟨_,rfl⟩
 have Gi:=Blk.new W 97 #[.int .u64 sp,.bool dl,.int .u64 dt,.int .u64 ol];have Gk:Blw W (W.alloc (.cells #[.int .u64 sp,.bool dl,.int .u64 dt,.int .u64 ol] 97)):=(Below.refl _ _).alloc (nL _) _;rw [Gr] at Gi Gk;have G0:=hid Gr;have Gn:=hid Gi;have Gh:=hid Gk;have HR:=hid hR;have Ga:=hid (hR.below Gk);have Gz:=hid (fun W (hW:Blw w W)=>w3e (h.below hW) p sp dl dt ol hdt);have Gp:=hid (And.intro hW hg);have Gu:=hid (show mm<=100000 by have h2:ql.length<=100000:=hfew;omega);have GQ:=hid G7;have v0:W1.cell? ⟨W.heap.size,0,none⟩=some (.int .u64 sp):=Gi.cell 0;have v1:W1.cell? ⟨W.heap.size,1,none⟩=some (.bool dl):=Gi.cell 1;have b0:W1.cell? ⟨g+4,0,none⟩=some (.bool qf):=Ga.out.fo.cell 0;have b1:W1.cell? ⟨g+1,0,none⟩=some (.int .u64 old):=Ga.out.od.cell 0;have b2:W1.frozen? ⟨g+4,0,none⟩=false:=Ga.out.fo.frozen 0;have b3:W1.cell? ⟨g+3,0,none⟩=some (.int .u64 qc):=Ga.out.cu.cell 0;have b4:W1.frozen? ⟨g+3,0,none⟩=false:=Ga.out.cu.frozen 0;obtain ⟨Y,hY⟩:∃ Y,prS old (z1b L cur (fun q=>chkR s K cs q 1)) ⟨qf,qc,ql,qb⟩ p (sp,dl,dt,ol)=Y:=⟨_,rfl⟩
 have Gq:Hid (qf=false->(decide (sp<=old)=false\/dl=false)->Y=(⟨decide (sp<=old),p,ql,qb⟩,true)):=hid (fun h1 h2=>by rw [<- hY];unfold prS;rw [if_pos ⟨h1,h2⟩]);have G1:Hid (¬ (qf=false/\(decide (sp<=old)=false\/dl=false))->Y=(⟨true,qc,ql++(bofR (z1b L cur (fun q=>chkR s K cs q 1)) p dl dt).1,(bofR (z1b L cur (fun q=>chkR s K cs q 1)) p dl dt).2⟩,decide ((bofR (z1b L cur (fun q=>chkR s K cs q 1)) p dl dt).2=0))):=hid (fun h1=>by rw [<- hY];unfold prS;rw [if_neg h1]);rw [hY];have Go:Hid ((bofR (z1b L cur (fun q=>chkR s K cs q 1)) p dl dt).1.length<=7):=hid (x0w _ _ _ _ _ _);clear h Gi Gk hR G7 hfew Gr hY hW hg hdt;go_enter Tryz.func132,Tryz.ntmps132
 go_upto_region 1 with fail
 rw [G0.out];go_upto_if 14 with fail
 go_cut [14] from 13 to 25 (fun _ wx=>Hid (PrR d g old ⟨true,qc,ql,qb⟩ A mm c wx)/\Hid (Chg (PrZ g W) W wx)/\Hid (Blk wx W.heap.size 97 #[.int .u64 sp,.bool dl,.int .u64 dt,.int .u64 ol])/\Hid (¬ (qf=false/\(decide (sp<=old)=false\/dl=false))))
 case first =>
  cases qf
  ·by_cases hs:sp<=old
   ·have GM:(sp:Int)<=(old:Int):=oM
    have HS:Hid (decide (sp<=old)=true):=hid (decide_eq_true hs);clear hs;cases dl
    ·go_wp2_with fail
     go_ret;rw [Gq.out (by simp) (.inr (by simp)),HS.out];have h1:=Ga.out.setF true;exact ⟨rfl,⟨A,mm,c,h1.setC p⟩,((Chg.of_below Gh.out).trans (PrZ.setF Ga.out true) (fun k hk => .inl (HR.out.zin (Ga.out.z hk)))).trans (PrZ.setC h1 p) (fun k hk => .inl (HR.out.zin (h1.z hk)))⟩
    ·go_wp2_with fail
     go_meet;have h1:=Ga.out.setF true;exact ⟨hid h1,hid ((Chg.of_below Gh.out).trans (PrZ.setF Ga.out true) (fun k hk => .inl (HR.out.zin (Ga.out.z hk)))),hid (((Chg.refl (fun k=>k=g+4) _).setCell (p:=⟨g+4,0,none⟩) (.inl rfl) _).blk Gn.out (by have h2:=HR.out.fo.lt;omega)),hid (fun h=>by rw [HS.out] at h;simp at h)⟩
   ·have GM:(old:Int) < (sp:Int):=oM
    have HS:Hid (decide (sp<=old)=false):=hid (decide_eq_false hs);clear hs;go_wp2_with fail
    go_ret;rw [Gq.out (by simp) (.inl HS.out),HS.out];have h1:=Ga.out.setF false;exact ⟨rfl,⟨A,mm,c,h1.setC p⟩,((Chg.of_below Gh.out).trans (PrZ.setF Ga.out false) (fun k hk => .inl (HR.out.zin (Ga.out.z hk)))).trans (PrZ.setC h1 p) (fun k hk => .inl (HR.out.zin (h1.z hk)))⟩
  ·go_wp2_with fail
   go_meet;exact ⟨Ga,hid (Chg.of_below Gh.out),Gn,hid (fun h=>by simp at h)⟩
 case rest =>
 obtain ⟨Gy,Gt,Gj,Gw⟩:=hcut;have HY:Hid (Y=(⟨true,qc,ql++(bofR (z1b L cur (fun q=>chkR s K cs q 1)) p dl dt).1,(bofR (z1b L cur (fun q=>chkR s K cs q 1)) p dl dt).2⟩,decide ((bofR (z1b L cur (fun q=>chkR s K cs q 1)) p dl dt).2=0))):=hid (G1.out Gw.out);have GB:Hid (Blw w wc):=hid (Gp.out.1.trans (Gt.out.toBelow Gp.out.1.size (fun k hk=>by
  have h2:=Gp.out.2;rcases HR.out.z hk with e | e | e | e | e
  ·omega
  ·omega
  ·omega
  ·omega
  ·have h1:=(HR.out.own.lt k e).1
   omega)))
 have GA:=hid (Gz.out wc GB.out);clear Gq G1 Gw Gz Ga Gn Gh G0 v0 v1 b0 b1 b2 b3 b4;generalize bofR (z1b L cur (fun q=>chkR s K cs q 1)) p dl dt=X at *;obtain ⟨xl,xe⟩:=X;dsimp only at Go HY;have v0:wc.cell? ⟨W.heap.size,0,none⟩=some (.int .u64 sp):=Gj.out.cell 0;have v1:wc.cell? ⟨W.heap.size,1,none⟩=some (.bool dl):=Gj.out.cell 1;have v2:wc.cell? ⟨W.heap.size,2,none⟩=some (.int .u64 dt):=Gj.out.cell 2;have v3:wc.cell? ⟨W.heap.size,3,none⟩=some (.int .u64 ol):=Gj.out.cell 3;have s1:wc.cell? ⟨g,0,none⟩=some (.iface 59 (.pointer (some ⟨d,0,none⟩))):=Gy.out.sp.cell 0;have hq:((xe:Int) == 0)=decide (xe=0):=by
  by_cases h:xe=0
  ·subst h;rfl
  ·rw [decide_eq_false h,beq_eq_false_iff_ne];omega
 generalize decide (xe=0)=qz at *;obtain ⟨i0,GL,GN,GO,GP⟩:=info_parts z8c;go_wp2_with (go_at_call 133;refine GA.out.mono ?_;rintro e w2 ⟨A2,m2,c2,rfl,G8,G9,GK,G2⟩;have Gv:=hid G8;have GJ:=hid G9;have Gs:=hid G2;clear G8 G9 GK G2;refine stop ?_)
 unfold Stop;have Ge:=hid (Gy.out.below Gs.out);have f1:w2.cell? ⟨g+2,0,none⟩=some (.slice A mm c):=Ge.out.all.cell 0;clear v0 v1 v2 v3 s1;go_wp2_with (at_builtin;refine z3y _ (.tmp 34) (.tmp 35) 40 rfl rfl (g+6) 54 i0 _ 1 8 Tryz.underlying40 GL GN GO GP rfl Nat.one_pos (.slice A mm c) mm (z0a ql) rfl Ge.out.own _ A2 m2 c2 (z0a xl) rfl GJ.out (z2z _) ?q1 ?q2 ?q3 ?_;(case q1=>(have h1:=Go.out;have h2:=Gv.out;have h3:=Gu.out;unfold maxLen;omega));(case q2=>(have h1:=Go.out;have h2:=Gv.out;have h3:=Gu.out;omega));(case q3=>(have h1:=Ge.out.bad.lt;omega));intro A3 n3 c3 w3 hn3 ho3 hg3 hv3;have GR:=hid hn3;have Gx:=hid ho3;have Gg:=hid hg3;have GS:=hid hv3;clear hn3 ho3 hg3 hv3;refine stop ?_)
 unfold Stop;have Gb:=Ge.out.own.lt;have G3:=Ge.out.sp.grown Gg.out (fun e=>by have h1:=(Gb _ e.symm).1;omega);have G4:=Ge.out.od.grown Gg.out (fun e=>by have h1:=(Gb _ e.symm).1;omega);have Gl:=Ge.out.all.grown Gg.out (fun e=>by have h1:=(Gb _ e.symm).1;omega);have G5:=Ge.out.cu.grown Gg.out (fun e=>by have h1:=(Gb _ e.symm).1;omega);have G6:=Ge.out.fo.grown Gg.out (fun e=>by have h1:=(Gb _ e.symm).1;omega);have Gm:=Ge.out.bad.grown Gg.out (fun e=>by have h1:=(Gb _ e.symm).1;omega);have z1:w3.frozen? ⟨g+2,0,none⟩=false:=Gl.frozen 0;have z2:w3.frozen? ⟨g+5,0,none⟩=false:=Gm.frozen 0;have y1:w3.cell? ⟨g+2,0,none⟩=some (.slice A mm c):=Gl.cell 0;have y2:w3.cell? ⟨g+5,0,none⟩=some (.int .i64 qb):=Gm.cell 0;have GD:=hid G3;have GE:=hid G4;have GF:=hid Gl;have GG:=hid G5;have GH:=hid G6;have GI:=hid Gm;have GC:Hid (Chg (PrZ g W) W w3):=hid ((Gt.out.below Gs.out).grown Gg.out (fun k hk => .inl (HR.out.zin (.inr (.inr (.inr (.inr hk)))))));clear G3 G4 Gl G5 G6 Gm Gb f1;go_wp2;go_ret;rw [HY.out];have k1:=(GF.out.set_ 0 (.slice A3 n3 c3))
 have Gc:Chg (fun k=>k=g+2) w3 (w3.setCell ⟨g+2,0,none⟩ (.slice A3 n3 c3)):=(Chg.refl (fun k=>k=g+2) w3).setCell (p:=⟨g+2,0,none⟩) (.inl rfl) _;have Gd:Chg (fun k=>k=g+5) (w3.setCell ⟨g+2,0,none⟩ (.slice A3 n3 c3)) ((w3.setCell ⟨g+2,0,none⟩ (.slice A3 n3 c3)).setCell ⟨g+5,0,none⟩ (.int .i64 xe)):=(Chg.refl (fun k=>k=g+5) _).setCell (p:=⟨g+5,0,none⟩) (.inl rfl) _;have Gf:=Gx.out.lt;refine ⟨rfl,⟨A3,n3,c3,⟨Gd.blk (Gc.blk GD.out oM) oM,Gd.blk (Gc.blk GE.out oM) oM,Gd.blk k1 oM,Gd.blk (Gc.blk GG.out oM) oM,Gd.blk (Gc.blk GH.out oM) oM,?_,?_⟩⟩,?_⟩
 ·exact (Gc.blk GI.out oM).set_ 0 _
 ·have e1:z0a (ql++xl)=z0a ql++z0a xl:=by simp [z0a]
  show World.ownsRow _ _ _ _ _ n3 (z0a (ql++xl));rw [e1];exact Gd.own (Gc.own Gx.out (fun k hk e=>by have h1:=(Gf k hk).1;omega)) (fun k hk e=>by have h1:=(Gf k hk).1;omega)
 ·exact (GC.out.setCell (p:=⟨g+2,0,none⟩) (.inl (HR.out.zin (.inl rfl))) _).setCell (p:=⟨g+5,0,none⟩) (.inl (HR.out.zin (.inr (.inr (.inr (.inl rfl)))))) _
end
end
section
open Go.RowKit Go.Maps
def stm (st:Nat):List Nat:=[st,st+1,if st=0 then 18446744073709551615 else st - 1]
def stL (l:List RV):List Nat:=l.flatMap fun r=>stm r.v.st
theorem w2z (l:List RV) (r:RV):stL (l++[r])=stL l++stm r.v.st:=by simp [stL]
theorem z8o (a b:List Nat):z0a (a++b)=z0a a++z0a b:=by simp [z0a]
theorem x4y (A:Option Addr) (n c:Nat) (l:List RV) (w:World) (hr:z0c w w.heap.size 5 A n (z0u l)) (hn:n<=10000) (hs:∀ r∈l,r.v.st<=4611686018427387903) :
  Calls Tryz.prog 55 #[.slice A n c] w fun e w'=>∃ A' c',e=.returned (.slice A' (3 * n) c')/\w'.ownsRow w.heap.size 32 1 (.slice A' (3 * n) c') (3 * n) (z0a (stL l))/\Blw w w':=by
 have hl:=z5l hr;obtain ⟨i0,Gv,Gw,Gx,Gy⟩:=info_parts z5t;have HR:=hid hr;have HS:=hid hs;have Gf:Hid (Blw w w):=Below.refl _ _;have Gj:Hid (w.ownsRow w.heap.size 32 1 (.slice none (3 * 0) 0) (3 * 0) (z0a (stL (l.take 0)))):=World.ownsRow_nil _ _ _ _;have HL:=hid hl;clear hr hl hs;go_enter Tryz.func55,Tryz.ntmps55
 go_wp2;go_loopw [3,8] (fun p i wr=>∃ (k m:Nat) (A1:Option Addr) (c1:Nat),k<=n/\m=3 * k/\i=.int .i64 k/\p=.slice A1 m c1/\Hid (wr.ownsRow w.heap.size 32 1 (.slice A1 m c1) m (z0a (stL (l.take k))))/\Hid (Blw w wr)) (fun _ i _=>n - (Go.RowKit.intOf i).toNat)
 case atStart=>exact ⟨0,0,_,_,Nat.zero_le _,rfl,rfl,rfl,Gj,Gf⟩
 case round =>
  clear Gf Gj;obtain ⟨k,m,A1,c1,hk,hm,rfl,rfl,HO,H⟩:=hrel;by_cases hlt:k < n
  ·obtain ⟨Gd,gb,go,Gu,_,f0,f1,f2,f3,f4⟩:=z2n ((HR.out.below H.out).more H.out.size) (k:=k) hlt
   subst Gu;have G0:(0:Int)<=(k:Int):=oM;have G1:(k:Int) < (n:Int):=oM;have Gm:=hid (HS.out (l[k]) (List.getElem_mem Gd));have HT:Hid (z0a (stL (l.take k))++z0a (stm (l[k]).v.st)=z0a (stL (l.take (k+1)))):=hid (by
    rw [List.take_succ_eq_append_getElem Gd,w2z,z8o])
   generalize l[k]=r at *;obtain ⟨v,B,nb,cb,D,nd,cd⟩:=r;obtain ⟨st,dl,q,bl,p⟩:=v;dsimp only at f0 f1 f2 f3 f4 Gm HT;obtain ⟨s3,Ge⟩:∃ s3,(if st=0 then 18446744073709551615 else st - 1)=s3:=⟨_,rfl⟩
   have Gt:=Gm.out;have e1:IntKind.u64.wrap ((st:Int)+1)=((st+1:Nat):Int):=by rw [wraps_u64 _ oM oM];omega
   have e3:IntKind.u64.wrap ((st:Int) - 1)=(s3:Int):=by
    rw [<- Ge,IntKind.wrap_u64];split <;> omega
   have Gr:Hid (stm st=[st,st+1,s3]):=hid (by unfold stm;rw [Ge]);generalize st+1=s2 at *;have Gz:=hid H.out.size;have Gc:=Blk.new wr 101 #[.int .u64 st,.bool dl,.int .u64 q,.slice B nb cb,.slice D nd cd];obtain ⟨W2,Ga⟩:∃ W2,wr.alloc (.cells #[.int .u64 st,.bool dl,.int .u64 q,.slice B nb cb,.slice D nd cd] 101)=W2:=⟨_,rfl⟩
   have Gs:=hid Ga;rw [Ga] at Gc;have g0:W2.cell? ⟨wr.heap.size,0,none⟩=some (.int .u64 st):=Gc.cell 0;have Gp:Hid (W2.ownsRow w.heap.size 32 1 (.slice A1 m c1) m (z0a (stL (l.take k)))):=hid (by rw [<- Ga];exact HO.out.alloc _);have Gb:Hid (Blw w W2):=hid (by rw [<- Ga];exact H.out.alloc H.out.size _);have Gq:=hid (Gp.out.alloc (.cells #[.int .u64 st,.int .u64 s2,.int .u64 s3] 32));have Gn:=hid (Gb.out.alloc Gb.out.size (.cells #[.int .u64 st,.int .u64 s2,.int .u64 s3] 32));clear H HO Gd Gc Ga Gt Ge;go_upto_region 5 with fail
   rw [Gs.out];go_wp2_with (at_builtin;refine z0p _ (.tmp 12) (.tmp 21) 99 rfl rfl w.heap.size 32 i0 _ 1 8 Tryz.underlying99 Gv Gw Gx Gy rfl Nat.one_pos (.slice A1 m c1) m (z0a (stL (l.take k))) rfl Gq.out (W2.heap.size+1) (some ⟨W2.heap.size,0,none⟩) 3 3 [.int .u64 st,.int .u64 s2,.int .u64 s3] rfl ?q5 ?q6 ?q2 ?q3 ?q4 ?_;(case q5=>exact z0m _ _ rfl _ 3 1 32 _ rfl rfl);(case q6=>(intro u hu;simp at hu;rcases hu with rfl | rfl | rfl <;> rfl));(case q2=>(unfold maxLen;omega));(case q3=>omega);(case q4=>(have:=Gb.out.size;simp;omega));intro A3 n3 c3 w8 hn3 ho3 hg3 hb3;have Gh:=hid hn3;have Gk:=hid ho3;have Gg:=hid (Gn.out.trans hb3);clear hn3 ho3 hg3 hb3;refine stop ?_)
   unfold Stop;have Gi:Hid (n3=3 * (k+1)):=hid (by have:=Gh.out;omega);have Gl:Hid (w8.ownsRow w.heap.size 32 1 (.slice A3 n3 c3) n3 (z0a (stL (l.take (k+1))))):=hid (by
    have h:=Gk.out;have e:[Value.int .u64 st,.int .u64 s2,.int .u64 s3]=z0a (stm st):=by rw [Gr.out];rfl
    rw [e,HT.out] at h;exact h)
   clear Gk Gh;go_wp2;go_roundw
   case rel =>
    first
     | exact ⟨k+1,n3,_,_,oM,Gi.out,by go_num,rfl,Gl,Gg⟩
     | (
       repeat apply Exists.intro
       refine ⟨?_,rfl⟩;exact ⟨k+1,n3,_,_,oM,Gi.out,by go_num,rfl,Gl,Gg⟩)
   case measure=>simp [Go.RowKit.intOf];omega
  ·obtain rfl:n=k:=oM
   subst hm;go_wp2;go_ret;refine ⟨_,_,rfl,?_,H.out⟩;have h:=HO.out;rw [List.take_of_length_le (Nat.le_of_eq HL.out)] at h;exact h
end
section
open Go.ChangeShapes Go.WideShapes Go.ChangeAt Go.RowKit
theorem x6g:Tryz.prog.cellsOf 4=1:=by kernel_rfl
theorem x3a:Tryz.prog.cellsOf 24=1:=by kernel_rfl
theorem x6h:Tryz.prog.cellsOf 229=3:=by kernel_rfl
theorem w7n {cs:List Value} {v0 v1 v2:Value} (hl:cs.length=3) (d0:cs[0]?=some v0) (d1:cs[1]?=some v1) (d2:cs[2]?=some v2):cs=[v0,v1,v2]:=by
 match cs,hl with
 | [a0,a1,a2],_ =>
  simp at d0 d1 d2;subst d0 d1 d2;rfl
section
variable {H:Type} {enc:TypeId × Value->H} {w:World} {base:Nat} {sp:Nat->Bool} {held:Bool} {fuel:Nat} {x:DataW H × List MemPlace}
theorem w5x {cs:List Value} (h:DataW.trod enc Tryz.prog w base sp held fuel 229 cs=some x):∃ r:DR,cs=r.cells/\r.In w:=by
 obtain ⟨xs,n,_,_,Gb,Gd,hf⟩:=DataW.trod_struct Tryz.underlying229 h;have Ge:xs.length=3:=Gd;have Ga:∀ j,j < 3->∃ y,xs[j]?=some y:=fun j hj=>⟨xs[j],List.getElem?_eq_getElem oM⟩
 obtain ⟨y0,e0⟩:=Ga 0 oM;obtain ⟨y1,e1⟩:=Ga 1 oM;obtain ⟨y2,e2⟩:=Ga 2 oM;obtain ⟨a0,c0,_,b0⟩:=DataW.trod_int Tryz.underlying5 ((hf 0 _ rfl).trans e0);obtain ⟨a1,c1,_⟩:=DataW.trod_bool Tryz.underlying4 ((hf 1 _ rfl).trans e1);have g2:=(hf 2 _ rfl).trans e2;change (cs.drop 0).take (Tryz.prog.cellsOf 5)=_ at c0;change (cs.drop 1).take (Tryz.prog.cellsOf 4)=_ at c1;change DataW.trod _ _ _ _ _ _ _ 24 ((cs.drop 2).take (Tryz.prog.cellsOf 24))=_ at g2;rw [w4x] at c0;rw [x6g] at c1;rw [x3a] at g2;obtain ⟨k0,rfl,l0⟩:=w9u b0;have Gc:cs.length=3:=Gb.trans x6h;have h2:∃ A n c,cs[2]?=some (.slice A n c)/\(cs.drop 2).take 1=[.slice A n c]:=by
  have e3:(cs.drop 2).take 1=[cs[2]'oM]:=by
   match cs,Gc with
   | [a,b,c],_=>rfl
  rcases Go.Deep.open_slice Tryz.underlying24 g2 with ⟨hcs,_⟩ | ⟨a,len,cap,m,n,D,Pl,hcs,_⟩
  ·exact ⟨none,0,0,x1q hcs,hcs⟩
  ·exact ⟨some a,len,cap,x1q hcs,hcs⟩
 obtain ⟨A,n2,c2,h3,h4⟩:=h2;rw [h4] at g2;obtain ⟨l,hl⟩:=x0x (a:=A) (len:=n2) (cap:=c2) (d:=y2.1) (p:=y2.2) ⟨_,g2⟩;exact ⟨⟨k0,a1,A,n2,c2,l⟩,w7n Gc (x1q c0) (x1q c1) h3,hl.r,hl.b,hl.le,hl.cap,l0⟩
end
def w9c (w:World) (v:Value):Prop:=∃ (A:Option Addr) (n c:Nat) (l:List DR),v=.slice A n c/\x5g w A n c l
section
variable {H:Type} {enc:TypeId × Value->H} {W:World} {b0 base:Nat} {sp:Nat->Bool} {held:Bool} {v:Value} {d:DataW H} {p:List MemPlace} {r:Reach}
theorem w7t (hv:Value.okWide Tryz.prog W r b0 87 v) (h:DataW.Trod enc Tryz.prog W base sp held 87 v d p):w9c W v:=by
 obtain ⟨Ga,hf⟩:=h;obtain ⟨a0,n0,k0,rfl⟩:=okWide_slice Tryz.underlying87 hv;have Gc:(Value.slice a0 n0 k0).cells.toList=[.slice a0 n0 k0]:=rfl;rw [Gc] at hf;rcases Go.Deep.open_slice Tryz.underlying87 hf with ⟨hcs,_⟩ | ⟨a,len,cap,m,n,D,Pl,hcs,hb,hl,hm,hmm,hx,hi⟩
 ·obtain hcs:Value.slice a0 n0 k0=.slice none 0 0:=by simpa using hcs
  rw [hcs];exact ⟨none,0,0,[],rfl,⟨rfl,fun h=>absurd h oM⟩,nL _,Nat.zero_le _,fun _ h=>by cases h⟩
 ·obtain hcs:Value.slice a0 n0 k0=.slice (some a) len cap:=by simpa using hcs
  rw [hcs];have Gh:len<=m:=by rw [hmm];split <;> omega
  obtain ⟨l,h1,h2,h3,h4⟩:=y1i DR.cells 3 oM (fun _=>rfl) W a (DR.In W) len (fun i hil=>by
   obtain ⟨Gf,hc,Ge⟩:=hi i oM;rw [x6h] at hc;obtain ⟨e,rfl,ho⟩:=w5x Ge;obtain ⟨_,Gg,Gb⟩:=World.cells?_some hc;exact ⟨e,ho,fun j hj=>by rw [<- Go.Deep.add_add];exact Gb j hj⟩)
  refine ⟨some a,len,cap,l,rfl,⟨h3,fun hpos=>⟨a,rfl,?_,h4⟩⟩,hl,hm,h2⟩;have Gd:0 < (l.flatMap DR.cells).length:=by rw [h3];omega
  have:=World.block_lt_of_cell? _ _ (h4 0 _ (List.getElem?_eq_getElem Gd));rw [z3e] at this;exact this
end
end
end Go.Proofs.YtfkjjoglnmeciaaGreatDoor
