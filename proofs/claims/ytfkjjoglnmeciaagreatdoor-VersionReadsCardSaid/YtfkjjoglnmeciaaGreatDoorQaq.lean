/- The walks and laws that the claim leans on, part 17. -/
import Derived.Test.YtfkjjoglnmeciaaGreatDoorQap
set_option maxRecDepth 100000
set_option maxHeartbeats 16000000
namespace Go.Proofs.YtfkjjoglnmeciaaGreatDoor
open Go.Lib (hid)
section
open Go.RowKit
theorem reads_sub {w:World} {B n b off:Nat} {l:List Nat} (h:Reads w B 1 (some ⟨b,off,none⟩) n (uCells l)) {k m:Nat} (hk:k≤m) (hm:m≤n) (hn:0 < n):Reads w B 1 (some ⟨b,off+k,none⟩) (m - k) (uCells ((l.take m).drop k)):=by
 have hl:l.length=n:=by have:=h.1;simp [uCells] at this;omega
 refine ⟨by simp [uCells];omega,fun _=>⟨_,rfl,?_,fun j u hu=>?_⟩⟩
 ·obtain ⟨ad,e,hb,_⟩:=h.2 hn
  injection e with e
  subst e;exact hb
 ·simp only [uCells,List.getElem?_map,List.getElem?_drop,Option.map_eq_some_iff] at hu
  obtain ⟨z,hz,rfl⟩:=hu;have hkj:k+j < m:=by
   have:=(List.getElem?_eq_some_iff.1 hz).1;simp at this;omega
  rw [List.getElem?_take_of_lt hkj] at hz;obtain ⟨hlt,e2⟩:=List.getElem?_eq_some_iff.1 hz;obtain ⟨hl2,b2,off2,hA,_,f0⟩:=u_facts h (k:=k+j) oM;injection hA with hA
  injection hA with h1 h2
  subst h1 h2;have e:(⟨b,off+k,none⟩:Addr).add j=⟨b,off+(k+j),none⟩:=by
   unfold Addr.add;split
   ·rename_i h;subst h;rfl
   ·rw [Nat.add_assoc]
  rw [e,f0,e2]
def usedW (rest:Nat):Nat:=2+(min rest 456+7) / 8
def partE (l:List Nat) (rest:Nat):Nat:=if l.getD (l.length - 1) 0≠sumW (l.take (l.length - 1)) then 10 else if decide (456 < rest)≠decide (l.getD 0 0≠0) then 11 else if ((l.take (l.length - 1)).drop (usedW rest)).any (fun x=>decide (x≠0))=true then 11 else if unpBad ((l.take (usedW rest)).drop 2) (min rest 456)=true then 11 else 0
def partB (l:List Nat) (rest:Nat):List Nat:=unpB ((l.take (usedW rest)).drop 2) (min rest 456)
theorem payL_sum (next:Nat) (p:List Nat):(payL next p).getD ((payL next p).length - 1) 0=sumW ((payL next p).take ((payL next p).length - 1))∧(payL next p).take ((payL next p).length - 1)=payB next p:=by
 have h1:(payL next p).length - 1=(payB next p).length:=by unfold payL;simp
 rw [h1];unfold payL;rw [List.take_left,List.getD_eq_getElem?_getD,List.getElem?_append_right (nL _)];simp
theorem payL_head (next:Nat) (p:List Nat):(payL next p).getD 0 0=next∧(payL next p).getD 1 0=p.length * 4294967297:=by
 unfold payL payB;exact ⟨rfl,rfl⟩
theorem payL_used (next:Nat) (p:List Nat):((payL next p).take (usedW p.length)).drop 2=packW (p.take 456):=by
 have hl:(packW (p.take 456)).length=(min p.length 456+7) / 8:=by rw [packW_len,List.length_take,Nat.min_comm]
 have e:payL next p=([next,p.length * 4294967297]++packW (p.take 456))++(List.replicate (bSize p.length - 3 - (packW (p.take 456)).length) 0++[sumW (payB next p)]):=by
  unfold payL;conv=>lhs;arg 1;unfold payB
  simp only [List.append_assoc]
 have h2:usedW p.length=([next,p.length * 4294967297]++packW (p.take 456)).length:=by unfold usedW;rw [List.length_append,hl];simp
 rw [e,h2,List.take_left];rfl
theorem payL_rest (next:Nat) (p:List Nat):(((payL next p).take ((payL next p).length - 1)).drop (usedW p.length)).any (fun x=>decide (x≠0))=false:=by
 rw [(payL_sum next p).2];have hl:(packW (p.take 456)).length=(min p.length 456+7) / 8:=by rw [packW_len,List.length_take,Nat.min_comm]
 have h2:usedW p.length=([next,p.length * 4294967297]++packW (p.take 456)).length:=by unfold usedW;rw [List.length_append,hl];simp
 have e:payB next p=([next,p.length * 4294967297]++packW (p.take 456))++List.replicate (bSize p.length - 3 - (packW (p.take 456)).length) 0:=rfl;rw [e,h2,List.drop_left];simp
theorem partE_pay {next:Nat} {p:List Nat} (hp:∀ b∈p,b < 256) (hn:456 < p.length↔next≠0):partE (payL next p) p.length=0:=by
 have hl:(p.take 456).length=min p.length 456:=by rw [List.length_take,Nat.min_comm]
 unfold partE;rw [if_neg (fun h=>h (payL_sum next p).1),(payL_head next p).1,if_neg (fun h=>h (decide_eq_decide.2 hn)),payL_rest,payL_used,if_neg (by simp),← hl,unpBad_pack (fun b hb=>hp b (List.mem_of_mem_take hb))];rfl
theorem partB_pay {next:Nat} {p:List Nat} (hp:∀ b∈p,b < 256):partB (payL next p) p.length=p.take 456:=by
 have hl:(p.take 456).length=min p.length 456:=by rw [List.length_take,Nat.min_comm]
 unfold partB;rw [payL_used,← hl,unpB_pack (fun b hb=>hp b (List.mem_of_mem_take hb))]
def loadR (L:Nat) (cur:Nat→Nat) (p:Nat):Option (List Nat × Nat) :=
 if 64 * L < pOff p+16 then none else
 if cur (pOff p / 8+1) % 4294967296≠cur (pOff p / 8+1) / 4294967296∨2000 < cur (pOff p / 8+1) % 4294967296 then none else
 if 64 * L < pOff p+8 * bSize (cur (pOff p / 8+1) % 4294967296) then none else
 some ((List.range (bSize (cur (pOff p / 8+1) % 4294967296))).map fun j=>cur (pOff p / 8+j),cur (pOff p / 8+1) % 4294967296)
def WordsAt (cur:Nat→Nat) (p:Nat) (l:List Nat):Prop:=∀ j,j < l.length→cur (pOff p / 8+j)=l.getD j 0
theorem loadR_pay {L:Nat} {cur:Nat→Nat} {q next:Nat} {p:List Nat} (h:WordsAt cur q (payL next p)) (hl:p.length≤2000) (hL:pOff q+8 * bSize p.length≤64 * L):loadR L cur q=some (payL next p,p.length):=by
 obtain ⟨h3,h60⟩:=bSize_le p.length;have e1:cur (pOff q / 8+1)=p.length * 4294967297:=by rw [h 1 (by rw [payL_len];omega),(payL_head next p).2]
 have m1:cur (pOff q / 8+1) % 4294967296=p.length:=by rw [e1];omega
 have m2:cur (pOff q / 8+1) / 4294967296=p.length:=by rw [e1];omega
 unfold loadR;rw [m1,m2,if_neg oM,if_neg oM,if_neg oM];congr 2
 apply List.ext_getElem
 ·rw [List.length_map,List.length_range,payL_len]
 ·intro j h1 h2
  rw [List.getElem_map,List.getElem_range,h j h2,List.getD_eq_getElem?_getD,List.getElem?_eq_getElem h2];rfl
theorem loadR_len {L:Nat} {cur:Nat→Nat} {q rest:Nat} {l:List Nat} (h:loadR L cur q=some (l,rest)):l.length=bSize rest∧rest≤2000∧pOff q+8 * bSize rest≤64 * L∧∀ j (hj:j < l.length),l[j]=cur (pOff q / 8+j):=by
 unfold loadR at h;split at h
 ·cases h
 ·split at h
  ·cases h
  ·split at h
   ·cases h
   ·injection h with h
    injection h with h1 h2
    subst h1 h2;refine ⟨by simp,oM,oM,fun j hj=>by simp⟩
def walkA (L:Nat) (cur:Nat→Nat) (chk:Nat→Nat):Nat→Nat→Int→List Nat→List Nat→Nat × List Nat × List Nat
 | 0,_,_,_,_=>(11,[],[])
 | k+1,p,want,bs,by_=>match loadR L cur p with
  | none=>(11,[],[])
  | some (l,rest)=>if 0≤want∧(rest:Int)≠want then (11,[],[]) else
   if partE l rest≠0 then (partE l rest,[],[]) else
   if rest≤456 then (0,bs++[p],by_++partB l rest) else
   if chk (l.getD 0 0)≠0 then (11,[],[]) else walkA L cur chk k (l.getD 0 0) ((rest:Int) - 456) (bs++[p]) (by_++partB l rest)
def Chain (L:Nat) (cur:Nat→Nat) (chk:Nat→Nat):List Nat→List Nat→Prop
 | [],_=>False
 | q :: t,p=>WordsAt cur q (payL (t.headD 0) p)∧p.length≤2000∧pOff q+8 * bSize p.length≤64 * L∧(456 < p.length↔t≠[])∧q≠0∧q < 18446744073709551616∧chk q=0∧(t≠[]→Chain L cur chk t (p.drop 456))
theorem Chain.nz {L:Nat} {cur:Nat→Nat} {chk:Nat→Nat} {q:Nat} {t p:List Nat} (h:Chain L cur chk (q :: t) p):(456 < p.length↔t.headD 0≠0):=by
 obtain ⟨_,_,_,h4,_,_,_,h8⟩:=h;cases t with
 | nil=>simpa using h4
 | cons r t =>
  obtain ⟨_,_,_,_,h5,_⟩:=h8 (by simp);simp at h4 ⊢;exact ⟨fun _=>h5,fun _=>h4⟩
theorem walk_chain {L:Nat} {cur:Nat→Nat} {chk:Nat→Nat} (k:Nat):∀ (q:Nat) (t p bs by_:List Nat) (want:Int),Chain L cur chk (q :: t) p→(∀ b∈p,b < 256)→(want < 0∨want=p.length)→p.length≤456 * k→0 < k→walkA L cur chk k q want bs by_=(0,bs++q :: t,by_++p):=by
 induction k with
 | zero=>intro q t p bs by_ want _ _ _ _ h;exact absurd h (Nat.lt_irrefl 0)
 | succ k ih =>
  intro q t p bs by_ want h hp hw hk _;have hnz:=h.nz;obtain ⟨h1,h2,h3,h4,h5,h6,h7,h8⟩:=h;unfold walkA;rw [loadR_pay h1 h2 h3];show (if 0≤want∧((p.length:Nat):Int)≠want then _ else _)=_;rw [if_neg oM,partE_pay hp hnz,if_neg oM,partB_pay hp,(payL_head _ p).1];by_cases hr:p.length≤456
  ·rw [if_pos hr]
   have ht:t=[]:=by
    cases t with
    | nil=>rfl
    | cons r t=>exact absurd (h4.2 (by simp)) oM
   rw [ht,List.take_of_length_le hr]
  ·rw [if_neg hr]
   cases t with
   | nil=>exact absurd rfl (h4.1 oM)
   | cons r t =>
    have hc:=h8 (by simp);have hcr:chk r=0:=hc.2.2.2.2.2.2.1;show (if chk r≠0 then _ else _)=_;rw [if_neg oM];show walkA L cur chk k r _ _ _=_;rw [ih r t (p.drop 456) _ _ _ hc (fun b hb=>hp b (List.mem_of_mem_drop hb)) (.inr (by rw [List.length_drop];omega)) (by rw [List.length_drop];omega) oM];simp only [List.append_assoc,List.cons_append,List.nil_append,List.take_append_drop]
def nBlk (n:Nat):Nat:=if n≤456 then 1 else (n - 1) / 456+1
def pwW (o:Nat) (l:List Nat):List (Nat × Nat):=(List.range l.length).map fun j=>(o+8 * j,l.getD j 0)
theorem pwW_mem {o:Nat} {l:List Nat} {e:Nat × Nat} (h:e∈pwW o l):∃ j,j < l.length∧e=(o+8 * j,l.getD j 0):=by
 obtain ⟨j,hj,rfl⟩:=List.mem_map.1 h;exact ⟨j,List.mem_range.1 hj,rfl⟩
theorem pwW_len (o:Nat) (l:List Nat):(pwW o l).length=l.length:=by simp [pwW]
end
section
open Go.RowKit
theorem bsize_any (n:Nat) (hn:n≤100000) (w:World) (hp:Pay w):Calls Tryz.prog 104 #[.int .i64 (n:Int)] w fun e w'=>e = .returned (.int .i64 (bSize n:Int))∧w=w':=by
 by_cases h:456 < n
 ·have hb:bSize n=60:=by unfold bSize;rw [if_pos h]
  have d1:decide ((456:Int) < (n:Int))=true:=dT;have d2:(456:Int) < (n:Int):=oM;rw [hb];clear hb;go_enter Tryz.func104,Tryz.ntmps104
  go_wp2;go_ret;exact ⟨rfl,rfl⟩
 ·have hb:bSize n=payW (clsOf (3+(n+7) / 8)):=by unfold bSize;rw [if_neg h]
  have d1:decide ((456:Int) < (n:Int))=false:=dF;have HC:=hid (class_any (3+(n+7) / 8) oM oM w hp);have HW:=hid (szWords_any (clsOf (3+(n+7) / 8)) (clsOf_lt _) w hp);obtain ⟨c,hc⟩:∃ c,3+(n+7) / 8=c:=⟨_,rfl⟩
  have v1:(3:Int)+((n:Int)+8 - 1) / 8=(c:Int):=oM;have v2:wrap64 (3+((n:Int)+8 - 1) / 8)=(c:Int):=by rw [v1];exact IntWalk.wrap64_in _ oM
  rw [hc] at HC HW hb;rw [hb];clear hb hc;go_enter Tryz.func104,Tryz.ntmps104
  go_wp2_with (first
   | (go_at_call 201;refine HC.out.mono ?_;rintro e w1 ⟨rfl,rfl⟩)
   | (go_at_call 202;refine HW.out.mono ?_;rintro e w1 ⟨rfl,rfl⟩))
  go_ret;exact ⟨rfl,rfl⟩
def uA (l:List Nat):Array Value:=(uCells l).toArray
theorem uA_at {l:List Nat} {i:Nat} (h:i < l.length):(uA l)[i]?=some (.int .u64 (l[i]:Int)):=by
 unfold uA uCells;simp [h]
theorem uA_set {l:List Nat} {i v:Nat}:(uA l).setIfInBounds i (.int .u64 (v:Int))=uA (l.set i v):=by
 unfold uA uCells;simp [List.map_set]
theorem uA_reads {w:World} {g:Nat} {l:List Nat} (h:Blk w g 32 (uA l)):Reads w w.heap.size 1 (some ⟨g,0,none⟩) l.length (uCells l) :=
 reads_of_blk h (by simp [uCells]) (fun j u hu=>by unfold uA;simpa using hu)
def RetSeal (w:World) (g:Nat) (l:List Nat) (e:Ending) (w':World):Prop:=e = .returned (.tuple #[])∧Blk w' g 32 (uA (l.take (l.length - 1)++[sumW (l.take (l.length - 1))]))∧Chg (fun k=>k=g) w w'
theorem seal_blob (g n c:Nat) (l:List Nat) (w:World) (h:Blk w g 32 (uA l)) (hl:l.length=n) (h1:1≤n) (hn:n≤1000) (hc:n≤c) (_hc2:c≤100000) (hx:∀ x∈l,x < 18446744073709551616) (ht:Tab w) :
  Calls Tryz.prog 205 #[.slice (some ⟨g,0,none⟩) n c] w (RetSeal w g l):=by
 obtain ⟨j,rfl⟩:∃ j,n=j+1:=⟨n - 1,oM⟩
 have hR:=uA_reads h;rw [hl] at hR;have hS:=reads_sub hR (k:=0) (m:=j) oM oM oM;rw [List.drop_zero,Nat.add_zero,Nat.sub_zero] at hS;have HW:=hid (wordsX_any (some ⟨g,0,none⟩) j c w.heap.size (l.take j) w hS (fun x hx'=>hx x (List.mem_of_mem_take hx')) oM ht);have e1:l.length - 1=j:=oM;have hv:sumW (l.take j) < 18446744073709551616:=by have:=sumW_lt (l.take j);omega
 have HF:Hid (RetSeal w g l (.returned (.tuple #[])) (w.setCell ⟨g,j,none⟩ (.int .u64 (sumW (l.take j):Int)))):=hid (by
  refine ⟨rfl,?_,(Chg.refl (fun k=>k=g) w).setCell (p:=⟨g,j,none⟩) (.inl rfl) _⟩;have h2:=h.set_ j (.int .u64 (sumW (l.take j):Int));rw [uA_set] at h2;rw [e1];have e2:l.set j (sumW (l.take j))=l.take j++[sumW (l.take j)]:=by
   apply List.ext_getElem
   ·simp;omega
   ·intro i h1 h2
    rw [List.getElem_set];by_cases e:j=i
    ·subst e
     rw [if_pos rfl,List.getElem_append_right (by simp;omega)];simp
    ·rw [if_neg e,List.getElem_append_left (by simp at h1 ⊢;omega)]
     simp
  rw [← e2];exact h2)
 have w1:wrap64 (((j+1:Nat):Int) - 1)=(j:Int):=by rw [IntWalk.wrap64_in _ oM];omega
 have w2:((j+1:Nat):Int) - 1=(j:Int):=oM;have w3:(j:Int) < ((j+1:Nat):Int):=oM;have w4:(0:Int)≤(j:Int):=oM;have w5:(j:Int)≤(c:Int):=oM;have z1:w.frozen? ⟨g,j,none⟩=false:=h.frozen _;have q1:w.cell? ⟨g,j,none⟩=some (.int .u64 (l[j]:Int)):=by rw [h.cell];exact uA_at oM
 generalize l[j]=lj at *;generalize sumW (l.take j)=sm at *;have hsm:sm < 4294967296∨4294967296≤sm:=oM;generalize hN:j+1=n at *;clear h hR hS hl hN e1;go_enter Tryz.func205,Tryz.ntmps205
 go_wp2_with (go_at_call 249;refine HW.out.mono ?_;rintro e w1 ⟨rfl,rfl⟩)
 go_end0;exact HF.out
end
section
open Go.RowKit
def RetBpt (w:World) (l:List Nat) (rest:Nat) (e:Ending) (w':World):Prop:=if partE l rest=0 then RetB w (partB l rest) e w' else e = .returned (.tuple #[.slice none 0 0, .int .i64 (partE l rest:Int)])∧Below w.heap.size w w'
theorem part_any (A:Option Addr) (n c rest:Nat) (l:List Nat) (w:World) (h:Reads w w.heap.size 1 A n (uCells l)) (hx:∀ x∈l,x < 18446744073709551616) (ht:Tab w) (hn:n≤60) (hc:n≤c) (_hc2:c≤1000) (hu:usedW rest < n) (hr:rest≤2000) :
  Calls Tryz.prog 223 #[.slice A n c, .int .i64 (rest:Int)] w (RetBpt w l rest):=by
 have hl0:l.length=n:=by have:=h.1;simp [uCells] at this;omega
 obtain ⟨j,hj⟩:∃ j,n=j+1:=⟨n - 1,oM⟩
 subst hj;obtain ⟨hlj,b,off,hA,hbB,f0⟩:=u_facts h (k:=j) oM;subst hA;obtain ⟨hlz,b',off',hA',_,g0⟩:=u_facts h (k:=0) oM;injection hA' with hA'
 injection hA' with h1 h2
 subst h1 h2;rw [Nat.add_zero] at g0;have hS:=reads_sub h (k:=0) (m:=j) oM oM oM;rw [List.drop_zero,Nat.add_zero,Nat.sub_zero] at hS;have hxs:∀ x∈l.take j,x < 18446744073709551616:=fun x hx'=>hx x (List.mem_of_mem_take hx')
 have HWd:=hid (wordsX_any (some ⟨b,off,none⟩) j c w.heap.size (l.take j) w.drew hS hxs oM ht);have hsl:=sumW_lt (l.take j);have HE:Hid (partE l rest=if l[j]≠sumW (l.take j) then 10 else if decide (456 < rest)≠decide (l[0]≠0) then 11 else if ((l.take j).drop (usedW rest)).any (fun x=>decide (x≠0))=true then 11 else if unpBad ((l.take (usedW rest)).drop 2) (min rest 456)=true then 11 else 0):=hid (by
  unfold partE;have e1:l.getD (l.length - 1) 0=l[j]:=by rw [hl0,Nat.add_sub_cancel,List.getD_eq_getElem?_getD,List.getElem?_eq_getElem hlj];rfl
  have e2:l.getD 0 0=l[0]:=by rw [List.getD_eq_getElem?_getD,List.getElem?_eq_getElem hlz];rfl
  rw [e1,e2,hl0,Nat.add_sub_cancel])
 have HX:=hid hx;have HH:=hid h;have hxj:=hx _ (List.getElem_mem hlj);have hx0:=hx _ (List.getElem_mem hlz);have HL:=hid hl0;clear h hx hS hxs hl0;generalize l[j]=xj at *;generalize l[0]=x0 at *;generalize hsm:sumW (l.take j)=sm at *;have HSm:=hid hsm;clear hsm;have w1:wrap64 (((j+1:Nat):Int) - 1)=(j:Int):=by rw [IntWalk.wrap64_in _ oM];omega
 have w2:((j+1:Nat):Int) - 1=(j:Int):=oM;have w3:(j:Int) < ((j+1:Nat):Int):=oM;have w4:(0:Int)≤(j:Int):=oM;have w5:(j:Int)≤(c:Int):=oM;have w6:(0:Int) < ((j+1:Nat):Int):=oM;have w7:((0:Nat):Int) < ((j+1:Nat):Int):=oM;generalize hN:j+1=n at *;have HN:=hid hN;clear hN;go_enter Tryz.func223,Tryz.ntmps223
 go_upto_region 2 with fail
 refine wp_region_scriptH (fun w'=>w'=w.drew) 9 [] [(1,0),(1,1),(1,2),(1,3),(1,4),(1,5),(1,6),(0,7),(0,8)] (by kernel_rfl) (by kernel_rfl) rfl ?_;refine tkH (.slice (some ⟨b,off,none⟩) n c) (fun w' hS=>?_) ?_
 ·go_simp
 simp only [zA,zB,Act.put,zD,zE,zF];refine tkH (.int .i64 (j:Int)) (fun w' hS=>?_) ?_
 ·go_simp
 simp only [zA,zB,zC,Act.put,zD,zE,zF];refine tkH (.pointer (some ⟨b,off+j,none⟩)) (fun w' hS=>?_) ?_
 ·go_simp
 simp only [zA,zB,zC,Act.put,zD,zE,zF];refine tkH (.int .u64 (xj:Int)) (fun w' hS=>?_) ?_
 ·subst hS
  go_simp
 simp only [zA,zB,zC,Act.put,zD,zE,zF];refine tkH (.slice (some ⟨b,off,none⟩) n c) (fun w' hS=>?_) ?_
 ·go_simp
 simp only [zA,zB,zC,Act.put,zD,zE,zF];refine tkH (.int .i64 (j:Int)) (fun w' hS=>?_) ?_
 ·go_simp
 simp only [zA,zB,zC,Act.put,zD,zE,zF];refine tkH (.slice (some ⟨b,off,none⟩) j c) (fun w' hS=>?_) ?_
 ·go_simp
 simp only [zA,zB,zC,Act.put,zD,zE,zF];refine wpScriptH_do (by rfl) ?_;go_wp2_with (go_at_call 249;refine HWd.out.mono ?_;rintro e w1 ⟨rfl,rfl⟩)
 refine ⟨rfl,?_⟩;refine wpScriptH_do (by rfl) ?_;go_wp2_with fail
 refine ⟨rfl,?_⟩;show wpList _ _ _ _ _ _;simp only [List.drop_succ_cons,List.drop_zero];clear HWd;by_cases c1:xj=sm
 ·have d1:((xj:Int) != (sm:Int))=false:=by rw [bne,beq_iff_eq.2 oM];rfl
  have HC1:=hid c1;clear c1;by_cases c2:decide (456 < rest)=decide (x0≠0)
  ·have d2:(decide ((456:Int) < (rest:Int)) == ((x0:Int) != 0))=true:=by
    have e1:decide ((456:Int) < (rest:Int))=decide (456 < rest):=by
     by_cases h:456 < rest
     ·rw [decide_eq_true h,dT]
     ·rw [decide_eq_false h,dF]
    have e2:((x0:Int) != 0)=decide (x0≠0):=by
     by_cases h:x0=0
     ·subst h;rfl
     ·rw [decide_eq_true h,bne,beq_eq_false_iff_ne.2 oM];rfl
    rw [e1,e2,c2];exact beq_self_eq_true _
   have HC2:=hid c2;clear c2;obtain ⟨nn,hnn⟩:∃ nn,min rest 456=nn:=⟨_,rfl⟩
   have m1:min (rest:Int) 456=(nn:Int):=oM;obtain ⟨u9,hu9⟩:∃ u9,usedW rest=u9:=⟨_,rfl⟩
   have hu1:u9=2+(nn+7) / 8:=by rw [← hu9,← hnn];rfl
   have hnn4:nn≤456:=oM;have hnn0:(0:Int)≤(nn:Int):=oM;have v1:(2:Int)+((nn:Int)+8 - 1) / 8=(u9:Int):=oM;have v2:wrap64 (2+((nn:Int)+8 - 1) / 8)=(u9:Int):=by rw [v1];exact IntWalk.wrap64_in _ oM
   have hu7:u9≤j:=oM;have v3:(u9:Int)≤(j:Int):=oM;have HU9:=hid hu9;have HNN:=hid hnn;have HU1:=hid hu1;clear hu9 hu1 m1;go_wp2_with fail
   refine NoPanic.normal ?_;go_upto_region 4 with fail
   go_upto_region 6 with fail
   go_cut [7] from 31 to 32 (fun x wx=>x = .int .i64 (nn:Int)∧Hid (wx=w.drew))
   case first =>
    rcases Nat.lt_or_ge 456 rest with hc4 | hc4
    ·have hn4:nn=456:=oM
     subst hn4;have k1:decide ((456:Int) < (rest:Int))=true:=dT;have k2:decide ((rest:Int) < 456)=false:=dF;have k3:(456:Int)≤(rest:Int):=oM;clear hnn;go_wp2_with fail
     go_meet;exact ⟨rfl,hid rfl⟩
    ·have hn4:rest=nn:=oM
     subst hn4;have k1:decide ((456:Int) < (rest:Int))=false:=dF;have k3:(rest:Int)≤456:=oM;clear hnn;go_wp2_with fail
     go_meet;exact ⟨rfl,hid rfl⟩
   case rest =>
    obtain ⟨rfl,hwc⟩:=hcut;have hw:=hwc.out;subst hw;clear hwc;go_upto_region 7 with fail
    go_cut [8] from 33 to 37 (fun y wx=>y = .int .i64 (u9:Int)∧Hid (wx=w.drew))
    case first =>
     go_wp2_with fail
     go_meet;exact ⟨rfl,hid rfl⟩
    case rest =>
     obtain ⟨rfl,hwc⟩:=hcut;have hw:=hwc.out;subst hw;clear hwc v1 v2;go_wp2;go_loopw [43] (fun i wr=>∃ k:Nat,k≤j - u9∧i = .int .i64 (k:Int)∧Hid (((((l.take j).drop u9).take k).any fun x=>decide (x≠0))=false)∧Hid (w.drew=wr)) (fun i _=>(j - u9) - (Go.RowKit.intOf i).toNat)
     case atStart=>exact ⟨0,Nat.zero_le _,rfl,hid (by simp),hid rfl⟩
     case round =>
      obtain ⟨k,hk,rfl,HA,hwr⟩:=hrel;have hw:=hwr.out;subst hw;by_cases hlt:k < j - u9
      ·obtain ⟨hlk,b2,off2,hA2,_,fk⟩:=u_facts HH.out (k:=u9+k) (by have:=HN.out;omega)
       injection hA2 with hA2
       injection hA2 with h1 h2
       subst h1 h2;have hel:((l.take j).drop u9)[k]?=some l[u9+k]:=by rw [List.getElem?_drop,List.getElem?_take_of_lt oM,List.getElem?_eq_getElem hlk]
       have HT:Hid (((l.take j).drop u9).take (k+1)=((l.take j).drop u9).take k++[l[u9+k]]):=hid (by rw [List.take_add_one,hel];rfl);have HEl:=hid hel;have hxk:=HX.out _ (List.getElem_mem hlk);rw [← Nat.add_assoc] at fk;generalize l[u9+k]=xk at *;have hz5:(0:Int)≤(k:Int):=oM;have hz6:(k:Int) < ((j - u9:Nat):Int):=oM;have hz7:(k:Int) < (j:Int) - (u9:Int):=oM;clear hel;by_cases hx0:xk=0
       ·have d3:((xk:Int) != 0)=false:=by rw [bne,beq_iff_eq.2 oM];rfl
        have HA2:Hid (((((l.take j).drop u9).take (k+1)).any fun x=>decide (x≠0))=false):=hid (by rw [HT.out,List.any_append,HA.out];simp [hx0]);clear hx0 HT HEl;go_wp2;go_roundw
        case rel =>
         first
          | exact ⟨k+1,oM,by go_num,HA2,hid True.intro⟩
          | exact ⟨k+1,oM,by go_num,HA2,hid rfl⟩
          | (
            repeat apply Exists.intro
            refine ⟨?_,rfl⟩;exact ⟨k+1,oM,by go_num,HA2,hid rfl⟩)
        case measure=>simp [Go.RowKit.intOf];omega
       ·have d3:((xk:Int) != 0)=true:=by rw [bne,beq_eq_false_iff_ne.2 oM];rfl
        have hE:Hid (partE l rest=11):=hid (by
         rw [HE.out,if_neg (fun h=>h HC1.out),if_neg (fun h=>h HC2.out),if_pos];rw [HU9.out,List.any_eq_true];exact ⟨xk,List.mem_of_getElem? HEl.out,by simp [hx0]⟩)
        clear hx0 HT HEl;go_wp2;go_ret2;unfold RetBpt;rw [hE.out,if_neg oM];exact ⟨rfl,(Below.refl _ _).drew⟩
      ·have hA3:Hid ((((l.take j).drop (usedW rest)).any fun x=>decide (x≠0))=false):=hid (by
        have h:=HA.out;rw [List.take_of_length_le (by rw [List.length_drop,List.length_take];omega)] at h;rw [HU9.out];exact h)
       have hS2:=reads_sub HH.out (k:=2) (m:=u9) (by have:=HU1.out;omega) (by have:=HN.out;omega) oM;have HUp:=hid (unpack_any (some ⟨b,off+2,none⟩) (u9 - 2) (c - 2) nn ((l.take u9).drop 2) w.drew ((hS2.below (Below.refl _ _).drew)) (fun x hx=>HX.out x (List.mem_of_mem_take (List.mem_of_mem_drop hx))) oM (by have:=HU1.out;omega));have hu2:2≤u9:=by have:=HU1.out;omega
       have v4:(2:Int)≤(u9:Int):=oM;have v5:(u9:Int)≤(c:Int):=oM;have hd1:decide ((k:Int) < ((j - u9:Nat):Int))=false:=dF;have hd2:decide (k < j - u9)=false:=decide_eq_false hlt;have hd3:decide ((k:Int) < (j:Int) - (u9:Int))=false:=dF;have hpE:Hid (partE l rest=if unpBad ((l.take u9).drop 2) nn=true then 11 else 0):=hid (by
        rw [HE.out,if_neg (fun h=>h HC1.out),if_neg (fun h=>h HC2.out),if_neg (by rw [hA3.out];simp),HU9.out,HNN.out])
       have hpB:Hid (partB l rest=unpB ((l.take u9).drop 2) nn):=hid (by unfold partB;rw [HU9.out,HNN.out]);clear hS2 hlt hA3 hk HE HA;generalize (l.take u9).drop 2=xs at *;by_cases hub:unpBad xs nn=true
       ·have HU2:Hid (Calls Tryz.prog 309 #[.slice (some ⟨b,off+2,none⟩) (u9 - 2) (c - 2), .int .i64 (nn:Int)] w.drew fun e w'=>e = .returned (.tuple #[.slice none 0 0, .int .i64 11])∧Below w.heap.size w w'):=hid (HUp.out.mono (fun e w' h=>by unfold RetUnp at h;rw [if_pos hub] at h;exact ⟨h.1,(Below.refl _ _).drew.trans h.2⟩))
        have hE:Hid (partE l rest=11):=hid (by rw [hpE.out,if_pos hub]);clear HUp hub;go_wp2_with (go_at_call 309;refine HU2.out.mono ?_;rintro e w2 ⟨rfl,hb2⟩;have HB2:=hid hb2;clear hb2)
        go_ret2;unfold RetBpt;rw [hE.out,if_neg oM];exact ⟨rfl,HB2.out⟩
       ·have HU2:Hid (Calls Tryz.prog 309 #[.slice (some ⟨b,off+2,none⟩) (u9 - 2) (c - 2), .int .i64 (nn:Int)] w.drew (RetB w.drew (unpB xs nn))):=hid (HUp.out.mono (fun e w' h=>by unfold RetUnp at h;rw [if_neg hub] at h;exact h))
        have hE:Hid (partE l rest=0):=hid (by rw [hpE.out,if_neg hub]);clear HUp hub;go_wp2_with (go_at_call 309;refine HU2.out.mono ?_;rintro e w2 ⟨A2,m2,c2,rfl,hm2,hr2,hf2,hb2⟩;have HB2:=hid (show _∧_∧_∧_ from ⟨hm2,hr2,hf2,hb2⟩);clear hm2 hr2 hf2 hb2)
        go_ret2;unfold RetBpt;rw [hE.out,if_pos rfl,hpB.out];exact ⟨A2,m2,c2,rfl,HB2.out.1,HB2.out.2.1,HB2.out.2.2.1,(Below.refl _ _).drew.trans HB2.out.2.2.2⟩
  ·have d2:(decide ((456:Int) < (rest:Int)) == ((x0:Int) != 0))=false:=by
    have e1:decide ((456:Int) < (rest:Int))=decide (456 < rest):=by
     by_cases h:456 < rest
     ·rw [decide_eq_true h,dT]
     ·rw [decide_eq_false h,dF]
    have e2:((x0:Int) != 0)=decide (x0≠0):=by
     by_cases h:x0=0
     ·subst h;rfl
     ·rw [decide_eq_true h,bne,beq_eq_false_iff_ne.2 oM];rfl
    rw [e1,e2];exact beq_eq_false_iff_ne.2 c2
   have HC2:=hid c2;clear c2;go_wp2;refine NoPanic.normal ?_;go_wp2;go_ret2;have hE:partE l rest=11:=by rw [HE.out,if_neg (fun h=>h HC1.out),if_pos HC2.out]
   unfold RetBpt;rw [hE,if_neg oM];exact ⟨rfl,(Below.refl _ _).drew⟩
 ·have d1:((xj:Int) != (sm:Int))=true:=by rw [bne,beq_eq_false_iff_ne.2 oM];rfl
  have HC1:=hid c1;clear c1;go_wp2;refine NoPanic.normal ?_;go_wp2;go_ret2;have hE:partE l rest=10:=by rw [HE.out,if_pos HC1.out]
  unfold RetBpt;rw [hE,if_neg oM];exact ⟨rfl,(Below.refl _ _).drew⟩
end
end Go.Proofs.YtfkjjoglnmeciaaGreatDoor
