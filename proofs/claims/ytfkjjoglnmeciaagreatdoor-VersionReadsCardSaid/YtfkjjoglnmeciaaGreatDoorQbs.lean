/- The walks and laws that the claim leans on, part 45. -/
import Derived.Test.YtfkjjoglnmeciaaGreatDoorQbr
import Derived.RangeFuncFrom
set_option maxRecDepth 100000
set_option maxHeartbeats 16000000
namespace Go.Proofs.YtfkjjoglnmeciaaGreatDoor
open Go.Lib (hid)
section
open Go.RowKit Go.Maps
theorem raw_any (A:Option Addr) (n c:Nat) (l:List Nat) (w:World) (hr:Reads w w.heap.size 1 A n (uCells l)) (hn:n≤100000) :
  Calls Tryz.prog 51 #[.slice A n c] w fun e w'=>∃ A' c',e = .returned (.slice A' n c')∧w'.ownsRow w.heap.size 32 1 (.slice A' n c') n (uCells l)∧Below w.heap.size w w':=by
 have hl:l.length=n:=by have h1:=hr.1;simpa [uCells] using h1
 obtain ⟨i0,hi0,hz0,hz1,hz2⟩:=info_parts infoU64;have HR:=hid hr;have HB0:Hid (Below w.heap.size w w):=Below.refl _ _;have HO0:Hid (w.ownsRow w.heap.size 32 1 (.slice none 0 0) 0 (uCells (l.take 0))):=World.ownsRow_nil _ _ _ _;have HL:=hid hl;clear hr hl;go_enter Tryz.func51,Tryz.ntmps51
 go_wp2;go_loopw [3,8] (fun p i wr=>∃ (k:Nat) (A1:Option Addr) (c1:Nat),k≤n∧i = .int .i64 (k:Int)∧p = .slice A1 k c1∧Hid (wr.ownsRow w.heap.size 32 1 (.slice A1 k c1) k (uCells (l.take k)))∧Hid (Below w.heap.size w wr)) (fun _ i _=>n - (Go.RowKit.intOf i).toNat)
 case atStart=>exact ⟨0,_,_,Nat.zero_le _,rfl,rfl,HO0,HB0⟩
 case round =>
  clear HB0 HO0;obtain ⟨k,A1,c1,hk,rfl,rfl,HO,H⟩:=hrel;by_cases hlt:k < n
  ·obtain ⟨hkl,gb,go,hA3,_,fk⟩:=u_facts ((HR.out.below H.out).more H.out.size) (k:=k) hlt
   subst hA3;have hz5:(0:Int)≤(k:Int):=oM;have hz6:(k:Int) < (n:Int):=oM;have HT:Hid (uCells (l.take k)++[.int .u64 (l[k]:Int)]=uCells (l.take (k+1))):=hid (by
    rw [List.take_succ_eq_append_getElem hkl];unfold uCells;rw [List.map_append];rfl)
   generalize l[k]=v at *;have HLE:=hid H.out.size;have HOD:=hid (HO.out.alloc (.cells #[.int .u64 (v:Int)] 32));have HBD:=hid (H.out.alloc H.out.size (.cells #[.int .u64 (v:Int)] 32));clear H HO hkl;go_wp2_with (at_builtin;refine wpList_app _ (.tmp 12) (.tmp 14) 99 rfl rfl w.heap.size 32 i0 _ 1 8 Tryz.underlying99 hi0 hz0 hz1 hz2 rfl Nat.one_pos (.slice A1 k c1) k (uCells (l.take k)) rfl HOD.out (wr.heap.size+1) (some ⟨wr.heap.size,0,none⟩) 1 1 [.int .u64 (v:Int)] rfl ?q5 ?q6 ?q2 ?q3 ?q4 ?_;(case q5=>exact row_reads_at _ _ rfl _ 1 1 32 _ rfl rfl);(case q6=>(intro u hu;simp at hu;subst hu;rfl));(case q2=>(unfold maxLen;omega));(case q3=>omega);(case q4=>(have:=HLE.out;simp;omega));intro A3 n3 c3 w8 hn3 ho3 hg3 hb3;have HN3:=hid hn3;have HO3:=hid ho3;have HB3:=hid (HBD.out.trans hb3);clear hn3 ho3 hg3 hb3;refine stop ?_)
   unfold Stop;have hn3:=HN3.out;subst hn3;have HO4:Hid (w8.ownsRow w.heap.size 32 1 (.slice A3 (k+1) c3) (k+1) (uCells (l.take (k+1)))):=hid (by have h:=HO3.out;rw [HT.out] at h;exact h);clear HO3 HN3;go_wp2;go_roundw
   case rel =>
    first
     | exact ⟨k+1,_,_,oM,by go_num,rfl,HO4,HB3⟩
     | (
       repeat apply Exists.intro
       refine ⟨?_,rfl⟩;exact ⟨k+1,_,_,oM,by go_num,rfl,HO4,HB3⟩)
   case measure=>simp [Go.RowKit.intOf];omega
  ·obtain rfl:n=k:=oM
   go_wp2;go_ret;refine ⟨_,_,rfl,?_,H.out⟩;have h:=HO.out;rw [List.take_of_length_le (Nat.le_of_eq HL.out)] at h;exact h
end
section
open Go.RowKit Go.Maps
def KpC (n:Nat) (Zb:Fp) (A B:World):Prop:=Below n A B∧∀ k o,A.heap[k]?=some o→o.isCells=true→¬ Zb k→B.heap[k]?=some o
theorem KpC.trans {n:Nat} {Zb:Fp} {A B C:World} (h:KpC n Zb A B) (k:KpC n Zb B C):KpC n Zb A C :=
 ⟨h.1.trans k.1,fun i o ho hc hz=>k.2 i o (h.2 i o ho hc hz) hc hz⟩
theorem KpC.blk {n:Nat} {Zb:Fp} {A B:World} (h:KpC n Zb A B) {g:Nat} {t:TypeId} {cs:Array Value} (hb:Blk A g t cs) (hz:¬ Zb g):Blk B g t cs:=h.2 g _ hb rfl hz
def RetFolX {σ:Type} (w0:World) (R:σ→World→Prop) (Rx:World→Prop) (X:Nat × σ) (e:Ending) (w':World):Prop:=RetFol w0 R X e w'∨(e = .returned (.int .i64 0)∧Rx w')
section
variable {a:DA} {L T s n K:Nat} {x:HA} {cs:Nat→CS} {f:Nat→Option Nat} {N m b0:Nat} {S:Fp} {cur:Nat→Nat} {w w0:World} {d r:Nat}
end
end
section
open Go.RowKit Go.Maps
theorem linked_any {a:DA} {L T K:Nat} {x:HA} {y:WA} {cs:Nat→CS} {f:Nat→Option Nat} {N m b0:Nat} {S:Fp} {cur:Nat→Nat} {w:World} (h:BW a L T K x y cs f N m b0 S cur w) (i:Nat) (hi:i < 8) :
  Calls Tryz.prog 33 #[.pointer (some ⟨y.g,0,none⟩), .int .i64 (i:Int)] w fun e w'=>e = .returned (.int .u64 (cur (416+i):Int))∧w'=w.drew:=by
 have HLk:=hid (linkB_any i hi);have hL:=h.size;have HLd:Hid (∀ W,W=w.drew→Calls Tryz.prog 65 #[.pointer (some ⟨a.th 0,0,none⟩), .int .u64 ((3328+8 * i:Nat):Int)] W (fun e w'=>e = .returned (.int .u64 (cur (416+i):Int))∧W=w')):=hid (fun W hW=>by
  subst hW;exact load_at h.sd.ds.dev (3328+8 * i) _ oM oM (by congr 1;omega) _ (Below.refl _ _).drew)
 have g1:w.cell? ⟨y.g,1,none⟩=some (.pointer (some ⟨a.th 0,0,none⟩)):=h.blk.cell 1;generalize 3328+8 * i=O at *;generalize cur (416+i)=V at *;clear h;go_enter Tryz.func33,Tryz.ntmps33
 go_upto_region 1 with fail
 refine wp_region_scriptH (fun w'=>w'.cell? ⟨y.g,1,none⟩=some (.pointer (some ⟨a.th 0,0,none⟩))) 8 [] [(1,0),(1,1),(1,2),(1,3),(1,4),(0,5),(0,6),(1,7)] (by kernel_rfl) (by kernel_rfl) g1 ?_;refine tkH (.pointer (some ⟨y.g,0,none⟩)) (fun w' hS=>?_) ?_
 ·go_simp
 simp only [zA,zB,Act.put,zD,zE,zF];refine tkH (.pointer (some ⟨y.g,0,none⟩)) (fun w' hS=>?_) ?_
 ·go_simp
 simp only [zA,zB,zC,Act.put,zD,zE,zF];refine tkH (.pointer (some ⟨y.g,1,none⟩)) (fun w' hS=>?_) ?_
 ·go_simp
 simp only [zA,zB,zC,Act.put,zD,zE,zF];refine tkH (.pointer (some ⟨a.th 0,0,none⟩)) (fun w' hS=>?_) ?_
 ·go_simp
 simp only [zA,zB,zC,Act.put,zD,zE,zF];refine tkH (.int .i64 (i:Int)) (fun w' hS=>?_) ?_
 ·go_simp
 simp only [zA,zB,zC,Act.put,zD,zE,zF];refine wpScriptH_do (by rfl) ?_;go_wp2_with (go_at_call 53;refine (HLk.out _).mono ?_;rintro e w1 ⟨rfl,rfl⟩)
 refine ⟨g1,?_⟩;refine wpScriptH_do (by rfl) ?_;go_wp2_with (go_at_call 65;refine (HLd.out _ rfl).mono ?_;rintro e w1 ⟨rfl,rfl⟩)
 refine ⟨g1,?_⟩;refine tkH (.int .u64 (V:Int)) (fun w' hS=>?_) ?_
 ·go_simp
 simp only [zA,zB,zC,Act.put,zD,zE,zF];show wpList _ _ _ _ _ _;simp only [List.drop_succ_cons,List.drop_zero];refine NoPanic.normal ?_;go_wp2_with fail
 go_ret;exact ⟨rfl,rfl⟩
end
section
open Go.RowKit Go.Maps
section
variable {a:DA} {L T n K:Nat} {x:HA} {cs:Nat→CS} {f:Nat→Option Nat} {N m b0:Nat} {S:Fp} {cur:Nat→Nat} {w:World} {d r:Nat}
def wSt (st:Nat) (dl:Bool):Nat:=2 * st+(if dl=true then 1 else 0)
def RetVPl (a:DA) (L T n K:Nat) (x:HA) (cs:Nat→CS) (f:Nat→Option Nat) (N m b0:Nat) (S:Fp) (cur:Nat→Nat) (w:World) (d r st:Nat) (dl:Bool) (dt ol:Nat) (e:Ending) (w':World):Prop :=
 ∃ k i S' cs' cur',e = .returned (.tuple #[.int .u64 (fptr 53 cs' 7 k i:Int), .int .i64 0])∧ResOk 53 K cs f cur 0 cs' cur' k i∧SD a L (T+400+200) 53 n K x cs' (updF f (offO 53 cs' k i) (some (fptr 53 cs' 7 k i))) (N+1) (m+1) b0 S' (wrS cur' (pwW (pOff (fptr 53 cs' 7 k i)) [wSt st dl,dt,ol])) w' d r∧Chg (sfp S x) w w'∧Grew S S' w∧Rq 53 K cs' (updF f (offO 53 cs' k i) (some (fptr 53 cs' 7 k i))) 7 (fptr 53 cs' 7 k i) 0∧At 53 K cs' (fptr 53 cs' 7 k i) k i
theorem three_reads (w:World) (o0 v0 o1 v1 o2 v2:Nat):Reads (w.alloc (.cells #[.int .u64 (o0:Int), .int .u64 (v0:Int), .int .u64 (o1:Int), .int .u64 (v1:Int), .int .u64 (o2:Int), .int .u64 (v2:Int)] 114)) (w.alloc (.cells #[.int .u64 (o0:Int), .int .u64 (v0:Int), .int .u64 (o1:Int), .int .u64 (v1:Int), .int .u64 (o2:Int), .int .u64 (v2:Int)] 114)).heap.size 2 (some ⟨w.heap.size,0,none⟩) 3 (wrCells [(o0,v0),(o1,v1),(o2,v2)]):=by
 rw [show (w.alloc (.cells #[.int .u64 (o0:Int), .int .u64 (v0:Int), .int .u64 (o1:Int), .int .u64 (v1:Int), .int .u64 (o2:Int), .int .u64 (v2:Int)] 114)).heap.size=w.heap.size+1 by simp];exact row_reads_at w _ rfl _ 3 2 114 _ rfl rfl
theorem methDAlloc7 (p : Option Addr) (w : World) : (method 640 59 (.pointer p) "Alloc").run Tryz.prog w = .ok (429, .pointer p) w := by kernel_rfl
theorem vplan_ok (h:SD a L T 53 n K x cs f N m b0 S cur w d r) (st:Nat) (dl:Bool) (dt ol:Nat) (hok:verOk st dl dt=true) (hst:st≤4611686018427387903) (hdt:dt < 18446744073709551616) (hol:ol < 18446744073709551616) (hN:N < 1000000000) (hT:T+600≤1000000000)
  (hcap:(∃ k i,Vac 53 K cs f (clsOf 3) k i)∨∃ k,k < K∧(cs k).dv=false) :
  Calls Tryz.prog 246 #[.iface 59 (.pointer (some ⟨d,0,none⟩)), .agg #[.int .u64 (st:Int), .bool dl, .int .u64 (dt:Int), .int .u64 (ol:Int)]] w (RetVPl a L T n K x cs f N m b0 S cur w d r st dl dt ol):=by
 have HV:Hid (∀ W,Calls Tryz.prog 130 #[.agg #[.int .u64 (st:Int), .bool dl, .int .u64 (dt:Int), .int .u64 (ol:Int)]] W fun e w'=>e = .returned (.bool true)∧Below W.heap.size W w'):=hid (fun W=>by
  have h:=vvalid_any st dl dt ol W;rw [hok] at h;exact h)
 have HB1:Hid (Below w.heap.size w (w.alloc (.cells #[.int .u64 (st:Int), .bool dl, .int .u64 (dt:Int), .int .u64 (ol:Int)] 97))):=hid ((Below.refl _ _).alloc (nL _) _);have hbx:=Blk.new w 97 #[.int .u64 (st:Int), .bool dl, .int .u64 (dt:Int), .int .u64 (ol:Int)];have HK1:=hid hbx;have HNs:Hid (¬ sfp S x w.heap.size):=hid (sfp_new h);have HSd:=hid h;have HAl:Hid (∀ W,Below w.heap.size w W→Calls Tryz.prog 429 #[.pointer (some ⟨d,0,none⟩), .int .i64 3, .int .u8 7] W (RetAl a L T 53 n K x cs f N m b0 S cur W d r (clsOf 3) 7)):=hid (fun W hW=>allocD (h.below hW) 3 7 oM oM oM oM hN oM hcap);have HEr:Hid (∀ W,Below w.heap.size w W→Calls Tryz.prog 432 #[.pointer (some ⟨d,0,none⟩)] W fun e w'=>e = .returned (.int .i64 0)∧W=w'):=hid (fun W hW=>errD (h.below hW).ds.dev ((h.below hW).dir));have HNum:=hid (show st≤4611686018427387903∧dt < 18446744073709551616∧ol < 18446744073709551616∧N < 1000000000∧T+600≤1000000000 from ⟨hst,hdt,hol,hN,hT⟩);have c0:(w.alloc (.cells #[.int .u64 (st:Int), .bool dl, .int .u64 (dt:Int), .int .u64 (ol:Int)] 97)).cell? ⟨w.heap.size,0,none⟩=some (.int .u64 (st:Int)):=hbx.cell 0;have c1:(w.alloc (.cells #[.int .u64 (st:Int), .bool dl, .int .u64 (dt:Int), .int .u64 (ol:Int)] 97)).cell? ⟨w.heap.size,1,none⟩=some (.bool dl):=hbx.cell 1;have c2:(w.alloc (.cells #[.int .u64 (st:Int), .bool dl, .int .u64 (dt:Int), .int .u64 (ol:Int)] 97)).cell? ⟨w.heap.size,2,none⟩=some (.int .u64 (dt:Int)):=hbx.cell 2
 have c3:(w.alloc (.cells #[.int .u64 (st:Int), .bool dl, .int .u64 (dt:Int), .int .u64 (ol:Int)] 97)).cell? ⟨w.heap.size,3,none⟩=some (.int .u64 (ol:Int)):=hbx.cell 3;have hnil:∀ W,(binOp .eql 83 (.iface 59 (.pointer (some ⟨d,0,none⟩))) .nilIface).run Tryz.prog W = .ok (.bool false) W:=fun W=>by rfl
 have hmE:=methDErr (some ⟨d,0,none⟩);have hmA:=methDAlloc7 (some ⟨d,0,none⟩);clear h hbx hok hst hdt hol hN hT hcap;go_enter Tryz.func246,Tryz.ntmps246
 go_wp2_with (go_at_call 130;refine (HV.out _).mono ?_;rintro e w2 ⟨rfl,hb2⟩;have HB2:=hid (HB1.out.trans (hb2.mono HB1.out.size));have HK2:=hid (HK1.out.below hb2 HK1.out.lt);clear hb2;refine stop ?_)
 unfold Stop;have HE2:=hid (HEr.out w2 HB2.out);have HA2:=hid (HAl.out w2 HB2.out);clear c0 c1 c2 c3;go_wp2_with (first
  | (go_at_call 432;refine HE2.out.mono ?_;rintro e w3 ⟨rfl,rfl⟩)
  | (go_at_call 429;refine HA2.out.mono ?_;rintro e w3 ⟨k,i,S3,cs3,cur3,rfl,hro,hsd3,hch3,hgr3⟩;refine stop ?_))
 unfold Stop;obtain ⟨hrq,hat⟩:=Rq.new hsd3.ds (kind:=7) ⟨oM,oM⟩ hro rfl;have hcl:(cs3 k).cl=0:=hro.vac.2.2.1;obtain ⟨q,hq⟩:∃ q,fptr 53 cs3 7 k i=q:=⟨_,rfl⟩
 have HQ:=hid hq;rw [hq] at hat hrq ⊢;have hq64:=hrq.keep.nz.2;have hk3:=hch3.blk HK2.out HNs.out;have HN3:Hid (¬ S3 w.heap.size):=hid (fun hz=>(hgr3 _ hz).elim (fun h=>HNs.out (.inl h)) (fun h=>absurd HK2.out.lt (Nat.not_lt.2 h)));have HK3:=hid hk3;have HSd3:=hid hsd3;have HRo:=hid hro;have HCh3:=hid hch3;have HGr3:=hid hgr3;have HAtt:=hid (And.intro hat hcl);have HRq:=hid hrq;have HAt:Hid (∀ (y:Nat) (W:World),y < 3→Calls Tryz.prog 49 #[.int .u64 (q:Int), .int .i64 (y:Int)] W fun e w'=>e = .returned (.int .u64 ((pOff q+8 * y:Nat):Int))∧W=w'):=hid (fun y W hy=>by
  have h1:=at_any q y oM W;have h2:pAt q y=pOff q+8 * y:=by unfold pAt;rw [if_neg (by have:=hrq.keep.nz.1;omega)]
  rw [h2] at h1;exact h1)
 have HP34:Hid (∀ y,y < 3→pOff q+8 * y < 18446744073709551616):=hid (fun y hy=>by unfold pOff;omega);obtain ⟨hst,hdt,hol,hN,hT⟩:=HNum.out;obtain ⟨sv,hsv⟩:∃ sv,wSt st dl=sv:=⟨_,rfl⟩
 have hsv64:sv < 18446744073709551616:=by rw [← hsv];unfold wSt;split <;> omega
 have HSv:=hid (And.intro hsv hsv64);have HWs:Hid (pwW (pOff q) [sv,dt,ol]=[(pOff q+8 * 0,sv),(pOff q+8 * 1,dt),(pOff q+8 * 2,ol)]):=hid rfl;have f0:w3.cell? ⟨w.heap.size,0,none⟩=some (.int .u64 (st:Int)):=hk3.cell 0;have f1:w3.cell? ⟨w.heap.size,1,none⟩=some (.bool dl):=hk3.cell 1;have f2:w3.cell? ⟨w.heap.size,2,none⟩=some (.int .u64 (dt:Int)):=hk3.cell 2;have f3:w3.cell? ⟨w.heap.size,3,none⟩=some (.int .u64 (ol:Int)):=hk3.cell 3;have HA0:Hid (∀ W,Calls Tryz.prog 49 #[.int .u64 (q:Int), .int .i64 0] W fun e w'=>e = .returned (.int .u64 ((pOff q+8 * 0:Nat):Int))∧W=w'):=hid (fun W=>HAt.out 0 W oM);have HA1:Hid (∀ W,Calls Tryz.prog 49 #[.int .u64 (q:Int), .int .i64 1] W fun e w'=>e = .returned (.int .u64 ((pOff q+8 * 1:Nat):Int))∧W=w'):=hid (fun W=>HAt.out 1 W oM);have HA2':Hid (∀ W,Calls Tryz.prog 49 #[.int .u64 (q:Int), .int .i64 2] W fun e w'=>e = .returned (.int .u64 ((pOff q+8 * 2:Nat):Int))∧W=w'):=hid (fun W=>HAt.out 2 W oM);have HO:Hid ((pOff q+8 * 0 < 18446744073709551616∧pOff q+8 * 1 < 18446744073709551616∧pOff q+8 * 2 < 18446744073709551616)):=hid ⟨HP34.out 0 oM,HP34.out 1 oM,HP34.out 2 oM⟩;generalize pOff q+8 * 0=o0 at HA0 HWs HO;generalize pOff q+8 * 1=o1 at HA1 HWs HO;generalize pOff q+8 * 2=o2 at HA2' HWs HO
 have HSt:Hid (∀ W:World,Calls Tryz.prog 105 #[.slice (some ⟨W.heap.size,0,none⟩) 3 3] (W.alloc (.cells #[.int .u64 (o0:Int), .int .u64 (sv:Int), .int .u64 (o1:Int), .int .u64 (dt:Int), .int .u64 (o2:Int), .int .u64 (ol:Int)] 114)) (RetProg (W.alloc (.cells #[.int .u64 (o0:Int), .int .u64 (sv:Int), .int .u64 (o1:Int), .int .u64 (dt:Int), .int .u64 (o2:Int), .int .u64 (ol:Int)] 114)) (IsStores [(o0,sv),(o1,dt),(o2,ol)]))):=hid (fun W=>stores_small _ 3 3 _ _ (three_reads W o0 sv o1 dt o2 ol) oM oM (fun e he=>by
  simp only [List.mem_cons,List.not_mem_nil,or_false] at he;obtain ⟨g0,g1,g2⟩:=HO.out;rcases he with rfl | rfl | rfl
  ·exact g0
  ·exact g1
  ·exact g2))
 have hsvI:(if dl=true then (2 * (st:Int)+1) else 2 * (st:Int))=(sv:Int):=by
  rw [← hsv];unfold wSt;split <;> omega
 have e1:IntKind.u64.wrap (2 * (st:Int))=2 * (st:Int):=wraps_u64 _ oM oM;have e2:IntKind.u64.wrap (2 * (st:Int)+1)=2 * (st:Int)+1:=wraps_u64 _ oM oM;have e4:IntKind.u64.wrap (sv:Int)=(sv:Int):=wraps_u64 _ oM oM;clear hro hsd3 hch3 hgr3 hrq hat hcl hq hq64 hk3 hst hdt hol hN hT hsv hsv64 HAt HP34 HE2 HA2 HAl HV;go_upto_region 10 with fail
 cases dl
 ·have e3:2 * (st:Int)=(sv:Int):=hsvI
  go_upto_region 12 with fail
  refine wp_region_scriptH (fun w'=>w'.cell? ⟨w.heap.size,2,none⟩=some (.int .u64 (dt:Int))∧w'.cell? ⟨w.heap.size,3,none⟩=some (.int .u64 (ol:Int))) 19 [] [(1,0),(1,2),(1,4),(1,6),(1,7),(1,9),(1,11),(1,12),(1,16),(0,1),(1,3),(0,5),(1,8),(0,10),(1,13),(0,14),(0,15),(0,17),(1,18)] (by kernel_rfl) (by kernel_rfl) ⟨f2,f3⟩ ?_;refine tkH (.int .u64 (q:Int)) (fun w' hS=>?_) ?_
  ·go_simp
  simp only [zA,zB,Act.put,zD,zE,zF];refine tkH (.int .u64 (sv:Int)) (fun w' hS=>?_) ?_
  ·go_simp
  simp only [zA,zB,zC,Act.put,zD,zE,zF];refine tkH (.int .u64 (q:Int)) (fun w' hS=>?_) ?_
  ·go_simp
  simp only [zA,zB,zC,Act.put,zD,zE,zF];refine tkH (.pointer (some ⟨w.heap.size,2,none⟩)) (fun w' hS=>?_) ?_
  ·go_simp
  simp only [zA,zB,zC,Act.put,zD,zE,zF];refine tkH (.int .u64 (dt:Int)) (fun w' hS=>?_) ?_
  ·obtain ⟨s1,s2⟩:=hS
   go_simp
  simp only [zA,zB,zC,Act.put,zD,zE,zF];refine tkH (.int .u64 (q:Int)) (fun w' hS=>?_) ?_
  ·go_simp
  simp only [zA,zB,zC,Act.put,zD,zE,zF];refine tkH (.pointer (some ⟨w.heap.size,3,none⟩)) (fun w' hS=>?_) ?_
  ·go_simp
  simp only [zA,zB,zC,Act.put,zD,zE,zF];refine tkH (.int .u64 (ol:Int)) (fun w' hS=>?_) ?_
  ·obtain ⟨s1,s2⟩:=hS
   go_simp
  simp only [zA,zB,zC,Act.put,zD,zE,zF];refine tkH (.iface 59 (.pointer (some ⟨d,0,none⟩))) (fun w' hS=>?_) ?_
  ·go_simp
  simp only [zA,zB,zC,Act.put,zD,zE,zF];refine wpScriptH_do (by rfl) ?_;go_wp2_with (go_at_call 49;refine (HA0.out _).mono ?_;rintro e w4 ⟨rfl,rfl⟩)
  refine ⟨⟨f2,f3⟩,?_⟩;refine tkH (.agg #[.int .u64 (o0:Int), .int .u64 (sv:Int)]) (fun w' hS=>?_) ?_
  ·go_simp
  simp only [zA,zB,zC,Act.put,zD,zE,zF];refine wpScriptH_do (by rfl) ?_;go_wp2_with (go_at_call 49;refine (HA1.out _).mono ?_;rintro e w4 ⟨rfl,rfl⟩)
  refine ⟨⟨f2,f3⟩,?_⟩;refine tkH (.agg #[.int .u64 (o1:Int), .int .u64 (dt:Int)]) (fun w' hS=>?_) ?_
  ·go_simp
  simp only [zA,zB,zC,Act.put,zD,zE,zF];refine wpScriptH_do (by rfl) ?_;go_wp2_with (go_at_call 49;refine (HA2'.out _).mono ?_;rintro e w4 ⟨rfl,rfl⟩)
  refine ⟨⟨f2,f3⟩,?_⟩;refine tkH (.agg #[.int .u64 (o2:Int), .int .u64 (ol:Int)]) (fun w' hS=>?_) ?_
  ·go_simp
  simp only [zA,zB,zC,Act.put,zD,zE,zF];refine wpScriptH_do (by rfl) ?_;go_wp2_with fail
  have hb4:Below w3.heap.size w3 (w3.drew.alloc (.cells #[.int .u64 (o0:Int), .int .u64 (sv:Int), .int .u64 (o1:Int), .int .u64 (dt:Int), .int .u64 (o2:Int), .int .u64 (ol:Int)] 114)):=(Below.refl w3.heap.size w3).drew.alloc (nL _) _;have hk4:=HK3.out.below hb4 HK3.out.lt;have HB4:=hid hb4;have HK4:=hid hk4;clear hb4;refine ⟨⟨hk4.cell 2,hk4.cell 3⟩,?_⟩;clear hk4;refine wpScriptH_do (by rfl) ?_;go_wp2_with (go_at_call 105;refine (HSt.out w3.drew).mono ?_;rintro e w5 ⟨A5,m5,c5,pp,rfl,hst,hown5,hb5⟩;have HS5:=hid hst;have HO5:=hid hown5;have HB5:Hid (Below w3.heap.size w3 w5):=hid (HB4.out.trans (hb5.mono HB4.out.size));have HK5:=hid (HK4.out.below hb5 HK4.out.lt);clear hst hown5 hb5)
  refine ⟨⟨HK5.out.cell 2,HK5.out.cell 3⟩,?_⟩;have HRn:=hid ((HSd3.out.below HB5.out).paid HAtt.out.1 (l:=[sv,dt,ol]) (by rw [HAtt.out.2];rfl) (fun y hy=>by simp only [List.mem_cons,List.not_mem_nil,or_false] at hy;have h1:=HSv.out.2;have h2:=HNum.out;rcases hy with e | e | e <;> omega) HO5.out (fun g hg=>Nat.lt_of_lt_of_le (HSd3.out.ds.dev.lt g hg) HB4.out.size) (by rw [HWs.out];exact HS5.out) (by have:=HNum.out;omega));unfold dirV at HRn;refine wpScriptH_do (by rfl) ?_;go_wp2_with (go_at_call 78;refine HRn.out.mono ?_;rintro e w6 ⟨rfl,S6,hsd6,hch6,hgr6⟩;have HSd6:=hid hsd6;have HCh6:=hid hch6;have HGr6:=hid hgr6;clear hsd6 hch6 hgr6)
  have hk6:=HCh6.out.blk HK5.out HN3.out;refine ⟨⟨hk6.cell 2,hk6.cell 3⟩,?_⟩;clear hk6;refine tkH (.int .i64 0) (fun w' hS=>?_) ?_
  ·go_simp
  simp only [zA,zB,zC,Act.put,zD,zE,zF];show wpList _ _ _ _ _ _;simp only [List.drop_succ_cons,List.drop_zero];go_wp2_with fail
  refine NoPanic.normal ?_;clear f0 f1 f2 f3;go_wp2;go_ret2;unfold RetVPl;refine ⟨k,i,S6,cs3,cur3,by rw [HQ.out];rfl,HRo.out,by rw [HSv.out.1];have h6:=HSd6.out;rw [← HQ.out] at h6;exact h6,?_,?_,by rw [HQ.out];exact HRq.out,by rw [HQ.out];exact HAtt.out.1⟩
  ·have h1:=(Chg.of_below HB2.out).trans HCh3.out (Grew.refl (sfp S x) w)
   have h2:=h1.trans ((Chg.of_below HB5.out).trans (HCh6.out.mono (fun _ h => .inl h)) (Grew.refl (sfp S3 x) _)) (fun z hz=>hz.elim (fun h=>(HGr3.out z h).elim (fun h => .inl (.inl h)) (fun h => .inr (Nat.le_trans HB2.out.size h))) (fun h => .inl (.inr h)));exact h2
  ·exact fun z hz=>(HGr6.out z hz).elim (fun h=>(HGr3.out z h).imp id (fun h=>Nat.le_trans HB2.out.size h)) (fun h => .inr (Nat.le_trans (Nat.le_trans HB2.out.size HCh3.out.size) (Nat.le_trans HB5.out.size h)))
 ·have e3:2 * (st:Int)+1=(sv:Int):=hsvI
  go_upto_region 12 with fail
  refine wp_region_scriptH (fun w'=>w'.cell? ⟨w.heap.size,2,none⟩=some (.int .u64 (dt:Int))∧w'.cell? ⟨w.heap.size,3,none⟩=some (.int .u64 (ol:Int))) 19 [] [(1,0),(1,2),(1,4),(1,6),(1,7),(1,9),(1,11),(1,12),(1,16),(0,1),(1,3),(0,5),(1,8),(0,10),(1,13),(0,14),(0,15),(0,17),(1,18)] (by kernel_rfl) (by kernel_rfl) ⟨f2,f3⟩ ?_;refine tkH (.int .u64 (q:Int)) (fun w' hS=>?_) ?_
  ·go_simp
  simp only [zA,zB,Act.put,zD,zE,zF];refine tkH (.int .u64 (sv:Int)) (fun w' hS=>?_) ?_
  ·go_simp
  simp only [zA,zB,zC,Act.put,zD,zE,zF];refine tkH (.int .u64 (q:Int)) (fun w' hS=>?_) ?_
  ·go_simp
  simp only [zA,zB,zC,Act.put,zD,zE,zF];refine tkH (.pointer (some ⟨w.heap.size,2,none⟩)) (fun w' hS=>?_) ?_
  ·go_simp
  simp only [zA,zB,zC,Act.put,zD,zE,zF];refine tkH (.int .u64 (dt:Int)) (fun w' hS=>?_) ?_
  ·obtain ⟨s1,s2⟩:=hS
   go_simp
  simp only [zA,zB,zC,Act.put,zD,zE,zF];refine tkH (.int .u64 (q:Int)) (fun w' hS=>?_) ?_
  ·go_simp
  simp only [zA,zB,zC,Act.put,zD,zE,zF];refine tkH (.pointer (some ⟨w.heap.size,3,none⟩)) (fun w' hS=>?_) ?_
  ·go_simp
  simp only [zA,zB,zC,Act.put,zD,zE,zF];refine tkH (.int .u64 (ol:Int)) (fun w' hS=>?_) ?_
  ·obtain ⟨s1,s2⟩:=hS
   go_simp
  simp only [zA,zB,zC,Act.put,zD,zE,zF];refine tkH (.iface 59 (.pointer (some ⟨d,0,none⟩))) (fun w' hS=>?_) ?_
  ·go_simp
  simp only [zA,zB,zC,Act.put,zD,zE,zF];refine wpScriptH_do (by rfl) ?_;go_wp2_with (go_at_call 49;refine (HA0.out _).mono ?_;rintro e w4 ⟨rfl,rfl⟩)
  refine ⟨⟨f2,f3⟩,?_⟩;refine tkH (.agg #[.int .u64 (o0:Int), .int .u64 (sv:Int)]) (fun w' hS=>?_) ?_
  ·go_simp
  simp only [zA,zB,zC,Act.put,zD,zE,zF];refine wpScriptH_do (by rfl) ?_;go_wp2_with (go_at_call 49;refine (HA1.out _).mono ?_;rintro e w4 ⟨rfl,rfl⟩)
  refine ⟨⟨f2,f3⟩,?_⟩;refine tkH (.agg #[.int .u64 (o1:Int), .int .u64 (dt:Int)]) (fun w' hS=>?_) ?_
  ·go_simp
  simp only [zA,zB,zC,Act.put,zD,zE,zF];refine wpScriptH_do (by rfl) ?_;go_wp2_with (go_at_call 49;refine (HA2'.out _).mono ?_;rintro e w4 ⟨rfl,rfl⟩)
  refine ⟨⟨f2,f3⟩,?_⟩;refine tkH (.agg #[.int .u64 (o2:Int), .int .u64 (ol:Int)]) (fun w' hS=>?_) ?_
  ·go_simp
  simp only [zA,zB,zC,Act.put,zD,zE,zF];refine wpScriptH_do (by rfl) ?_;go_wp2_with fail
  have hb4:Below w3.heap.size w3 (w3.drew.alloc (.cells #[.int .u64 (o0:Int), .int .u64 (sv:Int), .int .u64 (o1:Int), .int .u64 (dt:Int), .int .u64 (o2:Int), .int .u64 (ol:Int)] 114)):=(Below.refl w3.heap.size w3).drew.alloc (nL _) _;have hk4:=HK3.out.below hb4 HK3.out.lt;have HB4:=hid hb4;have HK4:=hid hk4;clear hb4;refine ⟨⟨hk4.cell 2,hk4.cell 3⟩,?_⟩;clear hk4;refine wpScriptH_do (by rfl) ?_;go_wp2_with (go_at_call 105;refine (HSt.out w3.drew).mono ?_;rintro e w5 ⟨A5,m5,c5,pp,rfl,hst,hown5,hb5⟩;have HS5:=hid hst;have HO5:=hid hown5;have HB5:Hid (Below w3.heap.size w3 w5):=hid (HB4.out.trans (hb5.mono HB4.out.size));have HK5:=hid (HK4.out.below hb5 HK4.out.lt);clear hst hown5 hb5)
  refine ⟨⟨HK5.out.cell 2,HK5.out.cell 3⟩,?_⟩;have HRn:=hid ((HSd3.out.below HB5.out).paid HAtt.out.1 (l:=[sv,dt,ol]) (by rw [HAtt.out.2];rfl) (fun y hy=>by simp only [List.mem_cons,List.not_mem_nil,or_false] at hy;have h1:=HSv.out.2;have h2:=HNum.out;rcases hy with e | e | e <;> omega) HO5.out (fun g hg=>Nat.lt_of_lt_of_le (HSd3.out.ds.dev.lt g hg) HB4.out.size) (by rw [HWs.out];exact HS5.out) (by have:=HNum.out;omega));unfold dirV at HRn;refine wpScriptH_do (by rfl) ?_;go_wp2_with (go_at_call 78;refine HRn.out.mono ?_;rintro e w6 ⟨rfl,S6,hsd6,hch6,hgr6⟩;have HSd6:=hid hsd6;have HCh6:=hid hch6;have HGr6:=hid hgr6;clear hsd6 hch6 hgr6)
  have hk6:=HCh6.out.blk HK5.out HN3.out;refine ⟨⟨hk6.cell 2,hk6.cell 3⟩,?_⟩;clear hk6;refine tkH (.int .i64 0) (fun w' hS=>?_) ?_
  ·go_simp
  simp only [zA,zB,zC,Act.put,zD,zE,zF];show wpList _ _ _ _ _ _;simp only [List.drop_succ_cons,List.drop_zero];go_wp2_with fail
  refine NoPanic.normal ?_;clear f0 f1 f2 f3;go_wp2;go_ret2;unfold RetVPl;refine ⟨k,i,S6,cs3,cur3,by rw [HQ.out];rfl,HRo.out,by rw [HSv.out.1];have h6:=HSd6.out;rw [← HQ.out] at h6;exact h6,?_,?_,by rw [HQ.out];exact HRq.out,by rw [HQ.out];exact HAtt.out.1⟩
  ·have h1:=(Chg.of_below HB2.out).trans HCh3.out (Grew.refl (sfp S x) w)
   have h2:=h1.trans ((Chg.of_below HB5.out).trans (HCh6.out.mono (fun _ h => .inl h)) (Grew.refl (sfp S3 x) _)) (fun z hz=>hz.elim (fun h=>(HGr3.out z h).elim (fun h => .inl (.inl h)) (fun h => .inr (Nat.le_trans HB2.out.size h))) (fun h => .inl (.inr h)));exact h2
  ·exact fun z hz=>(HGr6.out z hz).elim (fun h=>(HGr3.out z h).imp id (fun h=>Nat.le_trans HB2.out.size h)) (fun h => .inr (Nat.le_trans (Nat.le_trans HB2.out.size HCh3.out.size) (Nat.le_trans HB5.out.size h)))
end
end
end Go.Proofs.YtfkjjoglnmeciaaGreatDoor
