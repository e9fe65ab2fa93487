/- The walks and laws that the claim leans on, part 11. -/
import Derived.Test.YtnlokpakiambaaaGreatDoorJaj
set_option maxRecDepth 100000
set_option maxHeartbeats 16000000
namespace Go.Proofs.YtnlokpakiambaaaGreatDoor
open Go.Lib (hid)
section
open Go.RowKit
theorem own_le {w:World} {base base':Nat} {e:TypeId} {size:Nat} {v:Value} {n:Nat} {xs:List Value} (h:w.ownsRow base e size v n xs) (hb:base'≤base):w.ownsRow base' e size v n xs:=by
 refine ⟨h.1,?_⟩
 rcases h.2 with h0 | ⟨g,cap,cur,h1,h2,h3⟩
 ·exact .inl h0
 ·exact .inr ⟨g,cap,cur,h1,Nat.le_trans hb h2,h3⟩
def RetInss (w:World) (m:Nat) (l:List Ins) (e:Ending) (w':World):Prop :=
 ∃ A' m' c',e = .returned (.slice A' m' c')∧m'=m∧w'.ownsRow w.heap.size 211 3 (.slice A' m' c') m' (insCells l)∧Below w.heap.size w w'
theorem grow_nil (n:Nat) (w:World) (h0:0 < n) (hn:n≤1000) :
  Calls Tryz.prog 214 #[.slice none 0 0, .int .i64 (n:Int)] w (RetInss w 0 []):=by
 obtain ⟨i0,hi0,hz0,hz1,hz2⟩:=info_parts infoInstr
 have happ:=Lib.run_append_nil_zeros (P:=Tryz.prog) w 140 3 140 211 i0 _ .i64 .i64 Tryz.underlying140 Tryz.underlying3 hi0 hz0 n h0 (by omega) (by omega) (by rw [hz2];omega)
 generalize hcap:grownCap w n 0 211=cap at happ
 have hcapge:n≤cap:=by rw [← hcap];exact grownCap_ge w _ 0 211
 have hcaple:cap≤maxLen:=by rw [← hcap];exact grownCap_le_maxLen w _ 0 211 (by unfold maxLen;omega)
 have HO:Hid (∀ X:Array Value,X.size=cap * 3→(w.drew.alloc (.cells X 211)).ownsRow w.heap.size 211 3 (.slice (some ⟨w.heap.size,0,none⟩) 0 cap) 0 []):=fun X hX =>
  World.ownsRow_made w.drew X cap (Nat.le_refl _) hcaple hX
 generalize hZ:Builtin.zeroCells _ n++Builtin.zeroCells _ (cap - n)=Z at happ
 have HZ:Hid (Z.size=cap * 3):=show _=_ by rw [← hZ,Array.size_append,size_zeroCells,size_zeroCells,show (Value.agg #[.int .u8 0, .int .u64 0, .int .u64 0]).cells.size=3 from rfl];omega
 clear hZ hcap hi0 hz0 hz1 hz2
 have hb0:(0:Int)≤0:=Int.le_refl _
 have hc9:cap≤9223372036854775807:=hcaple
 go_enter Tryz.func214,Tryz.ntmps214
 go_wp2_with (at_builtin;refine Lib.wpList_append_run _ rfl _ _ _ _ rfl _ _ rfl rfl _ _ happ ?_)
 go_ret
 refine ⟨_,_,_,rfl,rfl,HO.out Z HZ.out,?_⟩
 exact (Below.refl _ _).drew.alloc (Nat.le_refl _) _
theorem grow_zero (w:World):Calls Tryz.prog 214 #[.slice none 0 0, .int .i64 0] w (RetInss w 0 []):=by
 have HO:Hid (∀ _:Nat,w.ownsRow w.heap.size 211 3 (.slice none 0 0) 0 []):=fun _=>World.ownsRow_nil _ _ _ _
 go_enter Tryz.func214,Tryz.ntmps214
 go_wp2
 go_ret
 exact ⟨_,_,_,rfl,rfl,HO.out 0,Below.refl _ _⟩
theorem grow_any (n:Nat) (w:World) (hn:n≤1000):Calls Tryz.prog 214 #[.slice none 0 0, .int .i64 (n:Int)] w (RetInss w 0 []):=by
 rcases Nat.eq_zero_or_pos n with rfl | h
 ·exact grow_zero w
 ·exact grow_nil n w h hn
def catAt (a b:List Ins):Nat→List Ins
 | 0=>[]
 | 1=>a
 | _=>a++b
theorem concat2 (A A2:Option Addr) (n c n2 c2:Nat) (a b:List Ins) (g:Nat) (w:World) (hb:Blk w g 140 #[.slice A n c, .slice A2 n2 c2]) (h1:Reads w w.heap.size 3 A n (insCells a)) (h2:Reads w w.heap.size 3 A2 n2 (insCells b)) (hn1:n≤400) (hn2:n2≤400) :
  Calls Tryz.prog 166 #[.slice (some ⟨g,0,none⟩) 2 2] w (RetInss w (n+n2) (a++b)):=by
 have HB:=hid hb
 have H1:=hid h1
 have H2:=hid h2
 have f0:w.cell? ⟨g,0,none⟩=some (.slice A n c):=hb.cell 0
 have f1:w.cell? ⟨g,1,none⟩=some (.slice A2 n2 c2):=hb.cell 1
 have HG:=hid (grow_any (n+n2) w (by omega))
 clear hb h1 h2
 go_enter Tryz.func166,Tryz.ntmps166
 go_wp2
 go_loopw [3,11] (fun z i wr=>∃ (k m:Nat),k≤2∧i = .int .i64 k∧z = .int .i64 m∧(k=0→m=0)∧(k=1→m=n)∧(k=2→m=n+n2)∧w=wr) (fun _ i _=>2 - (RowKit.intOf i).toNat)
 case atStart=>exact ⟨0,0,by omega,rfl,rfl,fun _=>rfl,by omega,by omega,rfl⟩
 case round =>
  obtain ⟨k,m,hk,rfl,rfl,hm0,hm1,hm2,rfl⟩:=hrel
  have hd:¬ ((m:Int)+(n:Int) < 0):=by omega
  have hd':¬ ((m:Int)+(n2:Int) < 0):=by omega
  rcases (show k=0∨k=1∨k=2 by omega) with rfl | rfl | rfl
  ·obtain rfl:=hm0 rfl
   go_wp2
   go_roundw
   case rel=>exact ⟨1,n,by omega,by go_num,by go_num,by omega,by omega,by omega,trivial⟩
   case measure=>simp [RowKit.intOf]
  ·obtain rfl:=hm1 rfl
   go_wp2
   go_roundw
   case rel=>exact ⟨2,m+n2,by omega,by go_num,by go_num,by omega,by omega,by omega,trivial⟩
   case measure=>simp [RowKit.intOf]
  ·obtain rfl:=hm2 rfl
   obtain ⟨i0,hi0,hz0,hz1,hz2⟩:=info_parts infoInstr
   go_wp2_with (go_at_call 214;refine HG.out.mono ?_;rintro e w1 ⟨A1,n1,c1,rfl,hn1,ho1,hb1⟩;have HO1:=hid ho1;have HB1:=hid hb1;have HN1:=hid hn1;clear ho1 hb1 hn1)
   go_loopw [6,27] (fun v i wr=>∃ (k:Nat) (A':Option Addr) (m c':Nat),k≤2∧i = .int .i64 k∧v = .slice A' m c'∧(k=0→m=0)∧(k=1→m=n)∧(k=2→m=n+n2)∧Hid (wr.ownsRow w.heap.size 211 3 (.slice A' m c') m (insCells (catAt a b k)))∧Hid (Below w.heap.size w wr)) (fun _ i _=>2 - (RowKit.intOf i).toNat)
   case atStart=>exact ⟨0,_,_,_,by omega,rfl,rfl,fun _=>HN1.out,by omega,by omega,HO1,HB1⟩
   case round =>
    obtain ⟨k,A',m,c',hk,rfl,rfl,hm0,hm1,hm2,HO,HW⟩:=hrel
    clear HO1 HB1 HN1
    have f0:wr.cell? ⟨g,0,none⟩=some (.slice A n c):=(HB.out.below HW.out HB.out.lt).cell 0
    have f1:wr.cell? ⟨g,1,none⟩=some (.slice A2 n2 c2):=(HB.out.below HW.out HB.out.lt).cell 1
    rcases (show k=0∨k=1∨k=2 by omega) with rfl | rfl | rfl
    ·obtain rfl:=hm0 rfl
     go_wp2_with (at_builtin;refine wpList_app _ (.tmp 31) (.tmp 32) 140 rfl rfl w.heap.size 211 i0 _ 3 24 Tryz.underlying140 hi0 hz0 hz1 hz2 rfl ?q1 (.slice A' 0 c') 0 (insCells (catAt a b 0)) rfl HO.out w.heap.size A n c (insCells a) rfl ?q5 ?q6 ?q2 ?q3 ?q4 ?_;(case q1=>omega);(case q5=>exact H1.out.below HW.out);(case q6=>exact insCells_one a);(case q2=>(unfold maxLen;omega));(case q3=>omega);(case q4=>exact HW.out.size);intro A3 n3 c3 w8 hn3 ho3 hg3 hb3;have HN3:=hid hn3;have HO3:=hid ho3;have HB3:=hid (HW.out.trans hb3);clear hn3 ho3 hg3 hb3)
     go_roundw
     case rel=>exact ⟨1,_,_,_,by omega,by go_num,rfl,by omega,fun _=>HN3.out.trans (Nat.zero_add _),by omega,HO3,HB3⟩
     case measure=>simp [RowKit.intOf]
    ·obtain rfl:=hm1 rfl
     go_wp2_with (at_builtin;refine wpList_app _ (.tmp 31) (.tmp 32) 140 rfl rfl w.heap.size 211 i0 _ 3 24 Tryz.underlying140 hi0 hz0 hz1 hz2 rfl ?q1 (.slice A' m c') m (insCells (catAt a b 1)) rfl HO.out w.heap.size A2 n2 c2 (insCells b) rfl ?q5 ?q6 ?q2 ?q3 ?q4 ?_;(case q1=>omega);(case q5=>exact H2.out.below HW.out);(case q6=>exact insCells_one b);(case q2=>(unfold maxLen;omega));(case q3=>omega);(case q4=>exact HW.out.size);intro A3 n3 c3 w8 hn3 ho3 hg3 hb3;have HN3:=hid hn3;have HO3:=hid ho3;have HB3:=hid (HW.out.trans hb3);clear hn3 ho3 hg3 hb3)
     have HO4:Hid (w8.ownsRow w.heap.size 211 3 (.slice A3 n3 c3) n3 (insCells (catAt a b 2))):=by have h:=HO3.out;rw [← insCells_app] at h;exact h
     go_roundw
     case rel=>exact ⟨2,_,_,_,by omega,by go_num,rfl,by omega,by omega,fun _=>HN3.out,HO4,HB3⟩
     case measure=>simp [RowKit.intOf]
    ·obtain rfl:=hm2 rfl
     go_wp2
     go_ret
     exact ⟨_,_,_,rfl,rfl,HO.out,HW.out⟩
theorem then_any (A A2:Option Addr) (n c n2 c2:Nat) (a b:List Ins) (w:World) (h1:Reads w w.heap.size 3 A n (insCells a)) (h2:Reads w w.heap.size 3 A2 n2 (insCells b)) (hn1:n≤400) (hn2:n2≤400) :
  Calls Tryz.prog 126 #[.slice A n c, .slice A2 n2 c2] w (RetInss w (n+n2) (a++b)):=by
 have HB0:Hid (Below w.heap.size w (w.alloc (.cells #[.slice A n c, .slice A2 n2 c2] 140))):=(Below.refl _ _).alloc (Nat.le_refl _) _
 have HC:=hid (concat2 A A2 n c n2 c2 a b w.heap.size (w.alloc (.cells #[.slice A n c, .slice A2 n2 c2] 140)) (Blk.new _ _ _) ((h1.below HB0.out).more (by simp)) ((h2.below HB0.out).more (by simp)) hn1 hn2)
 clear h1 h2
 go_enter Tryz.func126,Tryz.ntmps126
 go_wp2_with (go_at_call 166;refine HC.out.mono ?_;rintro e w1 ⟨A1,n1,c1,rfl,hn1,ho1,hb1⟩;have HO1:=hid ho1;have HB1:=hid hb1;have HN1:=hid hn1;clear ho1 hb1 hn1)
 go_ret
 exact ⟨_,_,_,rfl,HN1.out,own_le HO1.out (by simp),HB0.out.trans (HB1.out.mono (by simp))⟩
end
section
open Go.RowKit
def wrS (cur:Nat→Nat) (ws:List (Nat × Nat)):Nat→Nat:=ws.foldl (fun c e=>upd c (e.1 / 8) e.2) cur
theorem runP_sts:∀ (ws:List (Nat × Nat)) (cur:Nat→Nat),runP cur (ws.map stI)=wrS cur ws
 | [],_=>rfl
 | e :: ws,cur=>by
  have:=runP_sts ws (upd cur (e.1 / 8) e.2)
  simpa [runP,wrS,stI,runI] using this
theorem runP_fls:∀ (fs:List Nat) (cur:Nat→Nat),runP cur (fs.map Ins.fl)=cur
 | [],_=>rfl
 | f :: fs,cur=>by
  have:=runP_fls fs cur
  simpa [runP,runI] using this
theorem goodP_sts {L:Nat}:∀ (ws:List (Nat × Nat)) (q:List Ins),(∀ e∈ws,e.1 % 8=0∧e.1 < 64 * L∧e.2 < 18446744073709551616)→goodP L false q→goodP L false (ws.map stI++q)
 | [],_,_,h=>h
 | e :: ws,q,hw,h=>⟨⟨rfl,hw e (by simp)⟩,goodP_sts ws q (fun e he=>hw e (by simp [he])) h⟩
theorem goodP_fls {L:Nat}:∀ (fs:List Nat) (b:Bool),(∀ o∈fs,o < 64 * L)→goodP L b (fs.map Ins.fl++[Ins.fe])
 | [],_,_=>⟨trivial,rfl⟩
 | f :: fs,_,h=>⟨h f (by simp),goodP_fls fs true (fun o ho=>h o (by simp [ho]))⟩
theorem isStores_good {L:Nat} {ws:List (Nat × Nat)} {p:List Ins} (h:IsStores ws p) (hw:∀ e∈ws,e.1 % 8=0∧e.1 < 64 * L∧e.2 < 18446744073709551616) (cur:Nat→Nat) :
  goodP L false p∧runP cur p=wrS cur ws∧p.length≤2 * ws.length+1:=by
 obtain ⟨fs,rfl,hl,hq⟩:=h
 refine ⟨?_,?_,by simp;omega⟩
 ·rw [List.append_assoc]
  refine goodP_sts ws _ hw (goodP_fls fs false fun o ho=>?_)
  obtain ⟨e,he,rfl⟩:=hq o ho
  have:=(hw e he).2.1
  unfold lineOf
  omega
 ·rw [runP_app,runP_app,runP_sts,runP_fls]
  rfl
end
section
open Go.RowKit
theorem cloneU_any (ad:Addr) (n c:Nat) (l:List Nat) (w:World) (h:Reads w w.heap.size 1 (some ad) n (uCells l)) (hn:n≤100000) :
  Calls Tryz.prog 185 #[.slice (some ad) n c] w (fun e w'=>∃ A' m' c',e = .returned (.slice A' m' c')∧m'=n∧w'.ownsRow w.heap.size 23 1 (.slice A' m' c') m' (uCells l)∧Below w.heap.size w w'):=by
 have H:=hid h
 clear h
 have hnil:∀ W,(binOp .eql 33 (.slice (some ad) n c) (.slice none 0 0)).run Tryz.prog W = .ok (.bool false) W:=fun W=>Lib.run_eql_slice_some_nil W _ _ _ Tryz.underlying33
 obtain ⟨i0,hi0,hz0,hz1,hz2⟩:=info_parts infoU64
 have HO:Hid ((w.alloc (.cells #[] 23)).ownsRow w.heap.size 23 1 (.slice (some ⟨w.heap.size,0,none⟩) 0 0) 0 []):=World.ownsRow_made w #[] 0 (Nat.le_refl _) (by unfold maxLen;omega) (by simp)
 go_enter Tryz.func185,Tryz.ntmps185
 go_wp2_with (at_builtin;refine wpList_app _ (.tmp 5) (.tmp 6) 33 rfl rfl w.heap.size 23 i0 _ 1 8 Tryz.underlying33 hi0 hz0 hz1 hz2 rfl ?q1 (.slice (some ⟨w.heap.size,0,none⟩) 0 0) 0 [] rfl HO.out w.heap.size (some ad) n c (uCells l) rfl ?q5 ?q6 ?q2 ?q3 ?q4 ?_;(case q1=>omega);(case q5=>exact H.out.alloc (Nat.le_refl _) _);(case q6=>exact uCells_one l);(case q2=>(unfold maxLen;omega));(case q3=>omega);(case q4=>(simp));intro A3 n3 c3 w8 hn3 ho3 hg3 hb3;have HN3:=hid hn3;have HO3:=hid ho3;have HB3:=hid (((Below.refl _ w).alloc (Nat.le_refl _) _).trans hb3);clear hn3 ho3 hg3 hb3)
 go_ret
 refine ⟨_,_,_,rfl,HN3.out.trans (Nat.zero_add _),?_,HB3.out⟩
 have:=HO3.out
 rw [List.nil_append] at this
 exact this
end
section
open Go.RowKit Go.Maps
theorem u_facts {w:World} {B n:Nat} {A:Option Addr} {l:List Nat} (h:Reads w B 1 A n (uCells l)) {k:Nat} (hk:k < n) :
  ∃ (hl:k < l.length) (b off:Nat),A=some ⟨b,off,none⟩∧b < B∧w.cell? ⟨b,off+k,none⟩=some (.int .u64 ((l[k]):Int)):=by
 have hl:k < l.length:=by have:=h.1;simp [uCells] at this;omega
 obtain ⟨b,off,hA,hb,hc⟩:=h.plain (by omega) (by omega)
 exact ⟨hl,b,off,hA,hb,hc k _ (by simp [uCells,hl])⟩
def entW (z n:Nat):List (Nat × Nat)→List (Nat × Nat)
 | []=>[]
 | e :: l=>(z+64+16 * n,e.1) :: (z+64+16 * n+8,e.2) :: entW z (n+1) l
theorem entW_snoc (z:Nat):∀ (l:List (Nat × Nat)) (n:Nat) (e:Nat × Nat),entW z n (l++[e])=entW z n l++[(z+64+16 * (n+l.length),e.1),(z+64+16 * (n+l.length)+8,e.2)]
 | [],n,e=>by simp [entW]
 | x :: l,n,e=>by
  have:=entW_snoc z l (n+1) e
  simp only [List.cons_append,entW,this,List.length_cons]
  rw [show n+1+l.length=n+(l.length+1) by omega]
theorem entW_len (z:Nat):∀ (l:List (Nat × Nat)) (n:Nat),(entW z n l).length=2 * l.length
 | [],n=>rfl
 | x :: l,n=>by have:=entW_len z l (n+1);simp only [entW,List.length_cons,this];omega
theorem entW_mem (z:Nat):∀ (l:List (Nat × Nat)) (n:Nat) (e:Nat × Nat),e∈entW z n l→∃ j,j < l.length∧(e.1=z+64+16 * (n+j)∨e.1=z+64+16 * (n+j)+8)∧∃ x∈l,e.2=x.1∨e.2=x.2
 | [],n,e,h=>by simp [entW] at h
 | x :: l,n,e,h=>by
  simp only [entW,List.mem_cons] at h
  rcases h with rfl | rfl | h
  ·exact ⟨0,by simp, .inl (by simp),x,by simp, .inl rfl⟩
  ·exact ⟨0,by simp, .inr (by simp),x,by simp, .inr rfl⟩
  ·obtain ⟨j,h1,h2,y,hy,h3⟩:=entW_mem z l (n+1) e h
   refine ⟨j+1,by simp;omega,?_,y,by simp [hy],h3⟩
   rcases h2 with h2 | h2
   ·exact .inl (by omega)
   ·exact .inr (by omega)
def RetPlan (w:World) (P:List Ins→Prop) (e:Ending) (w':World):Prop:=∃ A m c p,e = .returned (.tuple #[.slice A m c, .int .i64 0])∧P p∧w'.ownsRow w.heap.size 211 3 (.slice A m c) m (insCells p)∧Below w.heap.size w w'
theorem isStores_len {ws:List (Nat × Nat)} {p:List Ins} (h:IsStores ws p):p.length≤2 * ws.length+1:=by
 obtain ⟨fs,rfl,hf,_⟩:=h
 simp
 omega
end
section
open Go.RowKit
theorem b_facts {w:World} {B n:Nat} {A:Option Addr} {l:List Nat} (h:Reads w B 1 A n (u8s l)) {k:Nat} (hk:k < n) :
  ∃ (hl:k < l.length) (b off:Nat),A=some ⟨b,off,none⟩∧b < B∧w.cell? ⟨b,off+k,none⟩=some (.int .u8 ((l[k]:Nat):Int)):=by
 have hl:k < l.length:=by have:=h.1;simp [u8s] at this;omega
 obtain ⟨b,off,hA,hb,hc⟩:=h.plain (by omega) (by omega)
 exact ⟨hl,b,off,hA,hb,hc k _ (by simp [u8s,hl])⟩
theorem reads_of_blk {w:World} {g n:Nat} {cs:Array Value} {t:TypeId} {l:List Value} (h:Blk w g t cs) (hl:l.length=n) (he:∀ (j:Nat) (u:Value),l[j]?=some u→cs[j]?=some u):Reads w w.heap.size 1 (some ⟨g,0,none⟩) n l:=by
 refine ⟨by omega,fun hn=>⟨_,rfl,h.lt,fun j u hu=>?_⟩⟩
 have h1:=h.cell (0+j)
 have e:(⟨g,0,none⟩:Addr).add j=⟨g,0+j,none⟩:=by
  unfold Addr.add
  split
  ·rename_i h;subst h;rfl
  ·rfl
 rw [e,h1,Nat.zero_add]
 exact he j u hu
theorem or_lev {l:List Nat} {b:Nat} (hl:∀ x∈l,x < 256) (h7:l.length≤7) (hb:b < 256):bits .or .u64 (lev l:Int) (((b * 2 ^ (8 * l.length):Nat):Int))=(lev (l++[b]):Int):=by
 have h1:=lev_lt l hl
 have h2:(256:Nat) ^ l.length=2 ^ (8 * l.length):=by rw [Nat.pow_mul]
 rw [h2] at h1
 have h3:(2:Nat) ^ (8 * l.length)≤2 ^ 56:=Nat.pow_le_pow_right (by omega) (by omega)
 have h4:(2:Nat) ^ 56=72057594037927936:=by decide
 have h5:b * 2 ^ (8 * l.length)≤255 * 2 ^ (8 * l.length):=Nat.mul_le_mul_right _ (by omega)
 rw [lev_snoc,h2,Nat.mul_comm (2 ^ (8 * l.length)) b]
 rw [bits_join_low .u64 64 (by decide) wraps_u64 (8 * l.length) (lev l:Int) ((b * 2 ^ (8 * l.length):Nat):Int) (by omega) (by exact_mod_cast h1) (by omega) (by omega) (by
  have:((b * 2 ^ (8 * l.length):Nat):Int)=(b:Int) * 2 ^ (8 * l.length):=by push_cast;rfl
  rw [this]
  exact Int.mul_emod_left _ _) (by omega)]
 push_cast
 rfl
def pkW (p:List Nat) (i j:Nat):Nat:=lev (((p.take i).drop (8 * j)).take 8)
theorem pkW_zero (p:List Nat) (j:Nat):pkW p 0 j=0:=by simp [pkW,lev]
theorem pkW_other {p:List Nat} {i j:Nat} (hi:i < p.length) (h:i / 8≠j):pkW p (i+1) j=pkW p i j:=by
 unfold pkW
 congr 1
 rw [List.take_succ_eq_append_getElem hi]
 rw [List.drop_append]
 have hl:(p.take i).length=i:=by simp;omega
 rw [hl]
 rcases Nat.lt_or_gt_of_ne h with h1 | h1
 ·have e1:8 * j - i ≥ 1:=by omega
  have:[p[i]].drop (8 * j - i)=[]:=by
   apply List.drop_eq_nil_of_le;simp;omega
  rw [this,List.append_nil]
 ·rw [List.take_append_of_le_length (by rw [List.length_drop,hl];omega)]
theorem pkW_same {p:List Nat} {i:Nat} (hi:i < p.length) (hp:∀ b∈p,b < 256):∃ l:List Nat,pkW p i (i / 8)=lev l∧pkW p (i+1) (i / 8)=lev (l++[p[i]])∧l.length=i % 8∧∀ x∈l,x < 256:=by
 have hl:(p.take i).length=i:=by simp;omega
 refine ⟨(p.take i).drop (8 * (i / 8)),?_,?_,?_,fun x hx=>hp x (List.mem_of_mem_take (List.mem_of_mem_drop hx))⟩
 ·unfold pkW
  rw [List.take_of_length_le]
  rw [List.length_drop,hl];omega
 ·unfold pkW
  rw [List.take_succ_eq_append_getElem hi,List.drop_append_of_le_length (by rw [hl];omega),List.take_of_length_le]
  rw [List.length_append,List.length_drop,hl]
  simp
  omega
 ·rw [List.length_drop,hl];omega
theorem pkW_end (p:List Nat) (j:Nat):pkW p p.length j=lev ((p.drop (8 * j)).take 8):=by unfold pkW;rw [List.take_length]
theorem wordsOf_any (n:Nat) (hn:n≤100000) (w:World):Calls Tryz.prog 232 #[.int .i64 (n:Int)] w fun e w'=>e = .returned (.int .i64 (((n+7) / 8:Nat):Int))∧w=w':=by
 by_cases h:n % 8=0
 ·have e1:((n:Int) % 8 == 0)=true:=by rw [beq_iff_eq];omega
  have e2:((n:Int) % 8 != 0)=false:=by rw [bne,e1];rfl
  have e3:(n:Int).tmod 8=(n:Int) % 8:=by rw [Int.tmod_eq_emod_of_nonneg (by omega)]
  have e5:(n:Int) / 8=(((n+7) / 8:Nat):Int):=by omega
  have e6:wrap64 ((n:Int) / 8)=(((n+7) / 8:Nat):Int):=by rw [e5];exact IntWalk.wrap64_in _ (by omega)
  have e4:(n:Int).tdiv 8=(((n+7) / 8:Nat):Int):=by rw [Int.tdiv_eq_ediv_of_nonneg (by omega)];omega
  generalize (n+7) / 8=q at *
  go_enter Tryz.func232,Tryz.ntmps232
  go_wp2
  go_ret
  exact ⟨rfl,rfl⟩
 ·have e1:((n:Int) % 8 == 0)=false:=by rw [beq_eq_false_iff_ne];omega
  have e2:((n:Int) % 8 != 0)=true:=by rw [bne,e1];rfl
  have e3:(n:Int).tmod 8=(n:Int) % 8:=by rw [Int.tmod_eq_emod_of_nonneg (by omega)]
  have e4:(n:Int).tdiv 8+1=(((n+7) / 8:Nat):Int):=by rw [Int.tdiv_eq_ediv_of_nonneg (by omega)];omega
  have e5:(n:Int) / 8+1=(((n+7) / 8:Nat):Int):=by omega
  have e6:wrap64 ((n:Int) / 8+1)=(((n+7) / 8:Nat):Int):=by rw [e5];exact IntWalk.wrap64_in _ (by omega)
  generalize (n+7) / 8=q at *
  go_enter Tryz.func232,Tryz.ntmps232
  go_wp2
  go_ret
  exact ⟨rfl,rfl⟩
def RetPk (w:World) (l:List Nat) (e:Ending) (w':World):Prop:=∃ A m c,e = .returned (.slice A m c)∧m=l.length∧Reads w' w'.heap.size 1 A m (uCells l)∧(∀ ad,A=some ad→w.heap.size≤ad.block)∧Below w.heap.size w w'
theorem madeU_at (n j:Nat) (h:j < n):(madeCells #[.int .u64 0] n)[j]?=some (.int .u64 0):=by
 rw [← Array.getElem?_toList,toList_madeCells_one]
 simp [h]
theorem madeU_size (n:Nat):(madeCells #[.int .u64 0] n).size=n:=by rw [size_madeCells]
theorem makeU (n:Nat) (hn:n≤1000000) (W:World):(Instr.makeSlice 33 (.int .i64 (n:Int)) (.int .i64 (n:Int))).run Tryz.prog W = .ok (.slice (some ⟨W.heap.size,0,none⟩) n n) (W.alloc (.cells (madeCells #[.int .u64 0] n) 23)):=by
 obtain ⟨j0,hj0,hk0,hk1,hk2⟩:=info_parts infoU64
 have h:=run_makeSlice (P:=Tryz.prog) W 33 23 j0 (.int .u64 0) Tryz.underlying33 hj0 hk0 .i64 .i64 (n:Int) (n:Int) (by omega) (by omega) (by rw [hk1];omega) (by rw [hk2];omega) (by omega)
 rw [hk1,Int.toNat_natCast,Nat.mul_one] at h
 exact h
theorem pack_any (A:Option Addr) (n c:Nat) (p:List Nat) (w:World) (h:Reads w w.heap.size 1 A n (u8s p)) (hp:∀ b∈p,b < 256) (hn:n≤100000) :
  Calls Tryz.prog 196 #[.slice A n c] w (RetPk w (packW p)):=by
 have hl0:p.length=n:=by have:=h.1;simp [u8s] at this;omega
 have HW:=hid (wordsOf_any n hn)
 have HR:=hid h
 have HP:=hid hp
 have HL:=hid hl0
 clear h hp hl0
 obtain ⟨q,hq⟩:∃ q,(n+7) / 8=q:=⟨_,rfl⟩
 have hqn:q≤100000:=by omega
 have hq8:n≤8 * q:=by omega
 rw [hq] at HW
 have HQ:=hid hq
 clear hq
 have hmk:=makeU q (by omega)
 go_enter Tryz.func196,Tryz.ntmps196
 go_wp2_with (go_at_call 232;refine (HW.out _).mono ?_;rintro e w1 ⟨rfl,rfl⟩)
 go_loopw [12] (fun i wr=>∃ k:Nat,k≤n∧i = .int .i64 (k:Int)∧Hid (∃ cs,Blk wr w.heap.size 23 cs∧cs.size=q∧∀ j,j < q→cs[j]?=some (.int .u64 (pkW p k j:Int)))∧Hid (Below w.heap.size w wr)) (fun i _=>n - (Go.RowKit.intOf i).toNat)
 case atStart =>
  refine ⟨0,Nat.zero_le _,rfl,hid ⟨_,Blk.new w _ _,madeU_size q,fun j hj=>?_⟩,hid ((Below.refl _ _).alloc (Nat.le_refl _) _)⟩
  rw [madeU_at q j hj,pkW_zero]
  rfl
 case round =>
  obtain ⟨k,hk,rfl,HC,HB⟩:=hrel
  by_cases hlt:k < n
  ·obtain ⟨hl,b,off,hA,hbB,f0⟩:=b_facts (HR.out.below HB.out) hlt
   subst hA
   obtain ⟨cs,hB,hsz,hcs⟩:=HC.out
   have hkq:k / 8 < q:=by omega
   have c0:=hcs (k / 8) hkq
   obtain ⟨l,e1,e2,e3,e4⟩:=pkW_same hl HP.out
   have hb256:p[k] < 256:=HP.out _ (List.getElem_mem hl)
   have HN:Hid (∃ cs',Blk (wr.setCell ⟨w.heap.size,k / 8,none⟩ (.int .u64 (pkW p (k+1) (k / 8):Int))) w.heap.size 23 cs'∧cs'.size=q∧∀ j,j < q→cs'[j]?=some (.int .u64 (pkW p (k+1) j:Int))):=hid ⟨_,hB.set_ (k / 8) _,by simp [hsz],fun j hj=>by
    rw [Array.getElem?_setIfInBounds]
    by_cases e:k / 8=j
    ·subst e
     simp [hsz,hkq]
    ·rw [if_neg e,hcs j hj,pkW_other hl e]⟩
   have HB2:Hid (Below w.heap.size w (wr.setCell ⟨w.heap.size,k / 8,none⟩ (.int .u64 (pkW p (k+1) (k / 8):Int)))):=hid (HB.out.setCell (Nat.le_refl _) _)
   rw [e2] at HN HB2
   rw [e1] at c0
   have f1:wr.cell? ⟨w.heap.size,k / 8,none⟩=some (.int .u64 (lev l:Int)):=by rw [hB.cell];exact c0
   have z1:wr.frozen? ⟨w.heap.size,k / 8,none⟩=false:=hB.frozen _
   have hx:=or_lev e4 (by omega) hb256
   have HX:Hid (bits .or .u64 (lev l:Int) (IntKind.u64.wrap (((p[k]:Nat):Int) * 2 ^ (k % 8 * 8)))=(lev (l++[p[k]]):Int)):=hid (by
    have h1:(p[k] * 2 ^ (8 * l.length):Nat)≤255 * 2 ^ 56:=Nat.mul_le_mul (by omega) (Nat.pow_le_pow_right (by omega) (by omega))
    have h2:(255:Nat) * 2 ^ 56=18374686479671623680:=by decide
    rw [← hx,e3,Nat.mul_comm 8 (k % 8)]
    rw [e3,Nat.mul_comm 8 (k % 8)] at h1
    have h3:(((p[k]:Nat):Int) * 2 ^ (k % 8 * 8))=((p[k] * 2 ^ (k % 8 * 8):Nat):Int):=by push_cast;rfl
    rw [h3,wraps_u64 _ (by omega) (by omega)])
   clear hx
   have HE3:=hid e3
   clear e1 e2 e4 hB hcs hsz c0 HC hbB e3
   generalize p[k]=bt at *
   have hz5:(0:Int)≤(k:Int):=by omega
   have hz6:(k:Int) < (n:Int):=by omega
   go_wp2
   go_roundw
   case rel =>
    first
     | (
       refine ⟨k+1,by omega,by go_num,?_,?_⟩
       ·rw [HX.out];exact HN
       ·rw [HX.out];exact HB2)
     | (
       repeat apply Exists.intro
       refine ⟨?_,rfl⟩
       refine ⟨k+1,by omega,by go_num,?_,?_⟩
       ·rw [HX.out];exact HN
       ·rw [HX.out];exact HB2)
   case measure=>simp [Go.RowKit.intOf];omega
  ·have hkn:k=n:=by omega
   have HF:Hid (RetPk w (packW p) (.returned (.slice (some ⟨w.heap.size,0,none⟩) q q)) wr):=hid (by
    obtain ⟨cs,hB,hsz,hcs⟩:=HC.out
    refine ⟨_,q,q,rfl,?_,reads_of_blk hB ?_ ?_,fun ad h=>by injection h with h;subst h;exact Nat.le_refl _,HB.out⟩
    ·rw [packW_len,HL.out];exact HQ.out.symm
    ·simp [uCells,packW_len,HL.out,HQ.out]
    ·intro j u hu
     have hj:j < q:=by
      have h1:=(List.getElem?_eq_some_iff.1 hu).1
      simp [uCells,packW_len,HL.out,HQ.out] at h1
      omega
     rw [hcs j hj,hkn,← HL.out,pkW_end]
     rw [← hu]
     simp [uCells,packW,HL.out,HQ.out,hj])
   have hd1:decide ((k:Int) < (n:Int))=false:=decide_eq_false (by omega)
   have hd2:decide (k < n)=false:=decide_eq_false hlt
   clear hkn hlt hk HC
   go_wp2
   go_ret
   exact HF.out
end
section
open Go.RowKit
theorem RetProg.back {w w1 w':World} {P:List Ins→Prop} {e:Ending} (hb:Below w.heap.size w w1) (h:RetProg w1 P e w'):RetProg w P e w':=by
 obtain ⟨A,m,c,p,he,hp,ho,hb'⟩:=h
 exact ⟨A,m,c,p,he,hp,own_le ho hb.size,hb.trans (hb'.mono hb.size)⟩
theorem RetDev.back {a:DA} {L T:Nat} {w w1 w':World} {S:Fp} {cur:Nat→Nat} {F:Nat} {v:Value} {e:Ending} (hb:Below w.heap.size w w1) (h:RetDev a L T w1 S cur F v e w'):RetDev a L T w S cur F v e w':=by
 obtain ⟨he,S',hd,hc,hg⟩:=h
 exact ⟨he,S',hd,(Chg.of_below hb).trans hc (Grew.refl _ _),(Grew.refl S w).trans hg hb.size⟩
theorem RetDev.then_ {a:DA} {L T:Nat} {w w1 w':World} {S S1:Fp} {cur:Nat→Nat} {F:Nat} {v:Value} {e:Ending} (hc1:Chg S w w1) (hg1:Grew S S1 w) (h:RetDev a L T w1 S1 cur F v e w'):RetDev a L T w S cur F v e w':=by
 obtain ⟨he,S',hd,hc,hg⟩:=h
 exact ⟨he,S',hd,hc1.trans hc hg1,hg1.trans hg hc1.size⟩
theorem run_stores {a:DA} {L T:Nat} {w:World} {S:Fp} {cur:Nat→Nat} (h:Dev a L T w S cur 0) {A:Option Addr} {m c base:Nat} {p:List Ins} {ws:List (Nat × Nat)} (ho:w.ownsRow base 211 3 (.slice A m c) m (insCells p)) (hb:∀ k,S k→k < base) (hp:IsStores ws p)
  (hw:∀ e∈ws,e.1 % 8=0∧e.1 < 64 * L∧e.2 < 18446744073709551616) (hl:ws.length≤1000) (hT:T+(2 * ws.length+1)≤1000000000) :
  Calls Tryz.prog 74 #[.slice A m c,memV a] w (RetDev a L (T+(2 * ws.length+1)) w S (wrS cur ws) 0 (.int .i64 0)):=by
 obtain ⟨hg,hr,hlen⟩:=isStores_good hp hw cur
 have hm:p.length=m:=by have:=ho.1;rw [insCells_len] at this;omega
 refine (run_any h A m c p (Reads.of_own ho) ?_ hg (by omega) (by omega)).mono ?_
 ·intro ad had hs
  rcases ho.2 with ⟨hv,_⟩ | ⟨g,cap,cs,hv,hge,_⟩
  ·injection hv with h1;rw [h1] at had;cases had
  ·injection hv with h1
   rw [h1] at had
   injection had with h2
   subst h2
   have:=hb _ hs
   simp at this
   omega
 ·rintro e w' ⟨he,S',hd,hc,hgr⟩
  rw [hr] at hd
  exact ⟨he,S',hd.more (by omega) (by omega),hc,hgr⟩
theorem one_reads (w:World) (o v:Nat):Reads (w.alloc (.cells #[.int .u64 (o:Int), .int .u64 (v:Int)] 90)) (w.alloc (.cells #[.int .u64 (o:Int), .int .u64 (v:Int)] 90)).heap.size 2 (some ⟨w.heap.size,0,none⟩) 1 (wrCells [(o,v)]):=by
 rw [show (w.alloc (.cells #[.int .u64 (o:Int), .int .u64 (v:Int)] 90)).heap.size=w.heap.size+1 by simp]
 exact row_reads_at w _ rfl _ 1 2 90 _ rfl rfl
theorem mark_any (a:DA) (s n g v:Nat) (w:World) (hB:Blk w g 231 (logCells a s n)) (hs:64 * s < 18446744073709551616) :
  Calls Tryz.prog 127 #[.pointer (some ⟨g,0,none⟩), .int .u64 (v:Int)] w (RetProg w (IsStores [(64 * s,v)])):=by
 have f1:w.cell? ⟨g,1,none⟩=some (.int .u64 ((64 * s:Nat):Int)):=hB.cell 1
 have HS:=hid (stores_small _ 1 1 _ _ (one_reads w (64 * s) v) (by omega) (by omega) (fun e he=>by simp at he;subst he;exact hs))
 generalize 64 * s=o at *
 clear hB
 go_enter Tryz.func127,Tryz.ntmps127
 go_wp2_with (go_at_call 73;refine HS.out.mono ?_;intro e w1 h1;have h2:=RetProg.back ((Below.refl _ _).alloc (Nat.le_refl _) _) h1;obtain ⟨A1,m1,c1,p1,rfl,hp1,ho1,hb1⟩:=h2;have HP1:=hid hp1;have HO1:=hid ho1;have HB1:=hid hb1;clear h1 hp1 ho1 hb1)
 go_ret
 exact ⟨_,_,_,_,rfl,HP1.out,HO1.out,HB1.out⟩
theorem redoFormat_any {a:DA} {L T:Nat} {w:World} {S:Fp} {cur:Nat→Nat} (h:Dev a L T w S cur 0) (s n:Nat) (hn:26≤n) (hs:s+n≤L) (hT:T+3≤1000000000) :
  Calls Tryz.prog 101 #[memV a, .int .i64 (s:Int), .int .i64 (n:Int)] w (RetDev a L (T+3) w S (wrS cur [(64 * s,0)]) 0 (.int .i64 0)):=by
 have HD:=hid h
 have HH:=hid (handle_any h s n hn hs)
 have HB1:Hid (Below w.heap.size w (w.alloc (.cells (logCells a s n) 231))):=(Below.refl _ _).alloc (Nat.le_refl _) _
 obtain ⟨ls,exe,per,cs,lsC,hdc,hnt⟩:=HD.out.below HB1.out
 have hL:=hdc.hL
 obtain ⟨f0,_,_,_,g2⟩:=hdc.facts (j:=0) (by omega)
 have HM:=hid (mark_any a s n w.heap.size 0 (w.alloc (.cells (logCells a s n) 231)) (Blk.new _ _ _) (by omega))
 have HSL:=hid hdc.lt
 have HR:Hid (∀ (A:Option Addr) (m c:Nat) (p:List Ins) (w1:World),IsStores [(64 * s,0)] p→w1.ownsRow (w.alloc (.cells (logCells a s n) 231)).heap.size 211 3 (.slice A m c) m (insCells p)→Below (w.alloc (.cells (logCells a s n) 231)).heap.size (w.alloc (.cells (logCells a s n) 231)) w1 →
   Calls Tryz.prog 74 #[.slice A m c,memV a] w1 (RetDev a L (T+3) w S (wrS cur [(64 * s,0)]) 0 (.int .i64 0))):=fun A m c p w1 hp ho hb=>by
  refine (run_stores ((HD.out.below HB1.out).below hb) ho HSL.out hp (fun e he=>by simp at he;subst he;omega) (by simp) (by simpa using hT)).mono ?_
  intro e w2 h2
  exact RetDev.back (HB1.out.trans (hb.mono (by simp))) (by simpa using h2)
 have hmE:=methErr (some ⟨a.th 0,0,none⟩)
 clear hdc hnt h HB1 HD HSL
 unfold memV at *
 go_enter Tryz.func101,Tryz.ntmps101
 go_wp2_with (first
  | (go_at_call 143;refine HH.out.mono ?_;rintro e w1 ⟨rfl,rfl⟩)
  | (go_at_call 127;refine HM.out.mono ?_;rintro e w1 ⟨A1,m1,c1,p1,rfl,hp1,ho1,hb1⟩;have HRR:=hid (HR.out A1 m1 c1 p1 w1 hp1 ho1 hb1);clear hp1 ho1 hb1)
  | (go_at_call 74;refine HRR.out.mono ?_;rintro e w2 ⟨rfl,h2⟩;have HZ:=hid h2;clear h2)
  | go_in)
 go_ret
 exact ⟨rfl,HZ.out⟩
end
end Go.Proofs.YtnlokpakiambaaaGreatDoor
