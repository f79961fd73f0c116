/-
  Texts of this proof,joined: Base,Mem,Glob,V1,V2,V3,V4,V4M,V4R,V4P,V5,V6,V7,V8.
-/
import Derived.Below
import Derived.Laws.OwnMore
import Derived.Maps.AppendAt
import Derived.Deep.AppendLies
import Derived.Lib.Hide
import Derived.OneCell
import Derived.WalkKit
import Derived.Deep.Draws
import Derived.Laws.StructEq
import Derived.ChangeKeysEq
set_option linter.unusedVariables false
set_option linter.unusedSimpArgs false
noncomputable section
namespace Go.Proofs.YtooioahiijbomaaGreatDoor
open Go.RowKit
set_option linter.defProp false
def aA:=@List.getElem?_eq_some_iff
def aB:=@List.getElem?_eq_getElem
def aC:=@List.mem_of_getElem?
def aD:=@List.getElem?_map
def aE:=@if_neg
def aF:=@if_pos
def aG:=@decide_eq_false
def aH:=@decide_eq_true
def aI:=@Nat.zero_le
def aJ:=@List.length_map
def aK:=@Array.getElem?_eq_getElem
def aL:=@Nat.lt_or_ge
def aM:=@List.length_append
def aN:=@Nat.le_refl
def aO:=@Bool.and_eq_true
def aP:=@List.getElem?_set_self
def aQ:=@List.eq_nil_of_length_eq_zero
def aR:=@List.length_take
def aS:=@List.all_eq_true
def aT:=@List.getElem?_set_ne
def aU:=@List.getElem?_of_mem
def aV:=@List.mem_cons_of_mem
def aW:=@List.mem_map
def aX:=@Array.getElem?_toList
def aY:=@Bool.false_eq_true
def aZ:=@List.length_set
def bA:=@Array.length_toList
def bB:=@List.take_of_length_le
def bC:=@List.mem_cons_self
def bD:=@Option.some.injEq
def bE:=@List.append_assoc
abbrev bF:=ByteArray
abbrev bG:=Program
structure gX (S:List Nat) (w w':World):Prop where
 os:w'.os=w.os
 tape:w'.tape=w.tape
 output:w'.output=w.output
 size:w.heap.size≤w'.heap.size
 block:∀k,k < w.heap.size→k∉S→w'.heap[k]?=w.heap[k]?
theorem gX.refl (S:List Nat) (w:World):gX S w w:=⟨rfl,rfl,rfl,aN _,fun _ _ _=>rfl⟩
theorem gX.of_below {w w':World}(h:Below w.heap.size w w') (S:List Nat):gX S w w':=
 ⟨h.os,h.tape,h.output,h.size,fun k hk _=>h.block k hk⟩
theorem gX.trans {S S':List Nat}{a b c:World}(h:gX S a b) (k:gX S' b c) (hs:∀x∈S',x∈S∨a.heap.size≤x):gX S a c:=
 ⟨k.os.trans h.os,k.tape.trans h.tape,k.output.trans h.output,Nat.le_trans h.size k.size,fun i hi hn=>
  (k.block i (Nat.lt_of_lt_of_le hi h.size) (fun hx=>by rcases hs i hx with h1|h1;exact hn h1;omega)).trans (h.block i hi hn)⟩
theorem gX.mono {S S':List Nat}{a b:World}(h:gX S a b) (hs:∀x∈S,x∈S'∨a.heap.size≤x):gX S' a b:=
 ⟨h.os,h.tape,h.output,h.size,fun i hi hn=>h.block i hi (fun hx=>by rcases hs i hx with h1|h1;exact hn h1;omega)⟩
theorem gX.then_below {S:List Nat}{a b c:World}(h:gX S a b) (k:Below b.heap.size b c):gX S a c:=
 h.trans (gX.of_below k []) (by simp)
theorem gX.drew {S:List Nat}{a b:World}(h:gX S a b):gX S a b.drew:=⟨h.os,h.tape,h.output,h.size,h.block⟩
theorem gX.alloc {S:List Nat}{a b:World}(h:gX S a b) (o:Obj):gX S a (b.alloc o):=
 h.then_below ((Below.refl _ _).alloc (aN _) o)
theorem gX.setCell {S:List Nat}{a b:World}(h:gX S a b) {p:Addr}(hp:p.block∈S∨a.heap.size≤p.block) (u:Value):gX S a (b.setCell p u):=
 h.trans (S':=[p.block]) ⟨rfl,rfl,rfl,by simp[World.setCell],fun k hk hn=>Below.heap_setCell _ _ _ _ (by simpa using hn)⟩ (by simpa using hp)
theorem gX.cell {S:List Nat}{w w':World}(h:gX S w w') {p:Addr}{v:Value}(hc:w.cell? p=some v) (hn:p.block∉S):w'.cell? p=some v:=
 (World.cell?_of_block (h.block p.block (World.block_lt_of_cell? w p hc) hn)).trans hc
def gF (w:World) (g:Nat) (t:TypeId) (cs:Array Value):Prop:=w.heap[g]?=some (.cells cs t (0,0))
section
variable {w w':World}{g:Nat}{t:TypeId}{cs:Array Value}
theorem gF.lt (h:gF w g t cs):g < w.heap.size:=lt_of_block h
theorem gF.cell (h:gF w g t cs) (i:Nat) (v:Value) (hv:cs[i]?=some v):w.cell? ⟨g,i,none⟩=some v:=by
 unfold gF at h;simp[World.cell?,h,hv]
theorem gF.free (h:gF w g t cs) (i:Nat):w.frozen? ⟨g,i,none⟩=false:=by
 unfold gF at h;simp[World.frozen?,h]
theorem gF.all (h:gF w g t cs):∀i,w.cell? ⟨g,i,none⟩=cs[i]?:=fun i=>by
 unfold gF at h;simp[World.cell?,h]
theorem gF.new (w:World) (t:TypeId) (cs:Array Value):gF (w.alloc (.cells cs t)) w.heap.size t cs:=heap_alloc_new w _
theorem gF.drew (h:gF w g t cs):gF w.drew g t cs:=h
theorem gF.alloc (h:gF w g t cs) (o:Obj):gF (w.alloc o) g t cs:=(Below.heap_alloc w o g h.lt).trans h
theorem gF.set_ (h:gF w g t cs) (i:Nat) (u:Value):gF (w.setCell ⟨g,i,none⟩ u) g t (cs.setIfInBounds i u):=by
 unfold gF at h⊢;simp[World.setCell,Array.getElem?_modify,h]
theorem gF.frm {S:List Nat}(h:gF w g t cs) (hf:gX S w w') (hg:g∉S):gF w' g t cs:=(hf.block g h.lt hg).trans h
end
def gC (A:Option Addr):List Nat:=A.toList.map (·.block)
@[simp] theorem fpo_none:gC none=[]:=rfl
@[simp] theorem fpo_some (a:Addr):gC (some a)=[a.block]:=rfl
structure Rd (w:World) (size:Nat) (A:Option Addr) (n c:Nat) (xs:List Value):Prop where
 len:xs.length=n * size
 cap:n≤c
 max:c≤maxLen
 nil_:A=none→n=0∧c=0
 lt:∀b∈gC A,b < w.heap.size
 get:∀j u,xs[j]?=some u→∃b o,A=some ⟨b,o,none⟩∧w.cell? ⟨b,o+j,none⟩=some u
section
variable {w w':World}{size:Nat}{A:Option Addr}{n c:Nat}{xs:List Value}
end
def fP (w:World) (e:TypeId) (size:Nat) (A:Option Addr) (n c:Nat) (xs:List Value):Prop:=w.ownsRow 0 e size (.slice A n c) n xs
section
variable {w w':World}{e:TypeId}{size:Nat}{A:Option Addr}{n c:Nat}{xs:List Value}
theorem fP.nil (w:World) (e:TypeId) (size:Nat):fP w e size none 0 0 []:=World.ownsRow_nil w 0 e size
theorem fP.cases_ (h:fP w e size A n c xs):(A=none∧n=0∧c=0∧xs=[])∨
  ∃g cur,A=some ⟨g,0,none⟩∧gF w g e cur∧n≤c∧c≤maxLen∧cur.size=c * size∧cur.toList.take (n * size)=xs:=by
 obtain⟨h1,h2|⟨g,cap,cur,hv,_,hg,r1,r2,r3,r4⟩⟩:=h
 ·obtain⟨h2,rfl⟩:=h2;simp only[Value.slice.injEq]at h2;exact .inl ⟨h2.1,rfl,h2.2.2,aQ (by simpa using h1)⟩
 ·simp only[Value.slice.injEq]at hv;obtain⟨rfl,_,rfl⟩:=hv;exact .inr ⟨g,cur,rfl,hg,r1,r2,r3,r4⟩
theorem fP.len (h:fP w e size A n c xs):xs.length=n * size:=h.1
theorem fP.of_blk {g:Nat}{cur:Array Value}(hb:gF w g e cur) (hn:n≤c) (hc:c≤maxLen) (hs:cur.size=c * size) (hx:cur.toList.take (n * size)=xs):fP w e size (some ⟨g,0,none⟩) n c xs:=
 ⟨by rw[←hx,aR,bA,hs];exact Nat.min_eq_left (Nat.mul_le_mul_right _ hn),.inr ⟨g,c,cur,rfl,aI _,hb,hn,hc,hs,hx⟩⟩
theorem fP.lt (h:fP w e size A n c xs):∀b∈gC A,b < w.heap.size:=by
 rcases h.cases_ with ⟨rfl,_⟩|⟨g,cur,rfl,hb,_⟩
 ·simp
 ·simp[hb.lt]
theorem fP.frm {S:List Nat}(h:fP w e size A n c xs) (hf:gX S w w') (hs:∀b∈gC A,b∉S):fP w' e size A n c xs:=by
 rcases h.cases_ with ⟨rfl,rfl,rfl,rfl⟩|⟨g,cur,rfl,hb,r1,r2,r3,r4⟩
 ·exact fP.nil _ _ _
 ·exact fP.of_blk (hb.frm hf (hs g (by simp))) r1 r2 r3 r4
theorem fP.alloc (h:fP w e size A n c xs) (o:Obj):fP (w.alloc o) e size A n c xs:=h.frm ((gX.refl [] w).alloc o) (by simp)
theorem fP.rd (h:fP w e size A n c xs):Rd w size A n c xs:=by
 rcases h.cases_ with ⟨rfl,rfl,rfl,rfl⟩|⟨g,cur,rfl,hb,r1,r2,r3,rfl⟩
 ·exact⟨by simp,aN _,by simp[maxLen],fun _=>⟨rfl,rfl⟩,by simp,by simp⟩
 ·refine⟨h.len,r1,r2,by simp,by simp[hb.lt],fun j u hu=>⟨g,0,rfl,hb.cell _ _ ?_⟩⟩;rw[List.getElem?_take]at hu
  split at hu
  ·simpa using hu
  ·cases hu
theorem Rd.lit (w:World) (e:TypeId) (size:Nat) (cs:Array Value) (n:Nat) (hn:n≤maxLen) (hs:cs.size=n * size) (g:Nat) (hg:g=w.heap.size) :
  Rd (w.alloc (.cells cs e)) size (some ⟨g,0,none⟩) n n cs.toList:=by
 subst hg;exact⟨by simpa using hs,aN _,hn,by simp,by simp,fun j u hu=>⟨_,_,rfl,(gF.new w e cs).cell _ _ (by simpa using hu)⟩⟩
end
section
variable {P:bG}(w:World)
theorem LW (t ty e:TypeId) (i:TypeInfo) (z:Value) (size bytes:Nat) (ht:P.underlying t=some (.slice e)) (hi:P.info? e=some i) (hz:i.zero=some z)
  (hsize:i.size=size) (hby:i.bytes=bytes) (hzs:z.cells.size=size) (hsz:0 < size)
  {A A':Option Addr}{n c m c':Nat}{xs news:List Value}(hown:fP w e size A n c xs) (hr:Rd w size A' m c' news) (h1:∀u∈news,u.oneCell'=true)
  (h63:n+m≤maxLen) (hbytes:(n+m) * bytes≤140737488355328) :
  ∃A2 c2 w',(Builtin.append_ #[t,t] ty #[.slice A n c,.slice A' m c']).run P w=.ok (.slice A2 (n+m) c2) w'∧fP w' e size A2 (n+m) c2 (xs++news)∧
   gX (gC A) w w'∧(∀b∈gC A2,b∈gC A∨b=w.heap.size):=by
 rcases A' with _|ad
 ·obtain⟨rfl,rfl⟩:=hr.nil_ rfl;have hn:news=[]:=aQ (by simpa using hr.len);subst hn;exact⟨A,c,w,run_append_owned_none (P:=P) w 0 t ty e i size ht hi _ n xs hown,by simpa using hown,gX.refl _ _,fun b hb=>.inl hb⟩
 ·have hcells:∀j u,news[j]?=some u→w.cell? (ad.add j)=some u:=by
   intro j u hu;obtain⟨b,o,he,hc⟩:=hr.get j u hu;simp only[bD]at he;subst he;rw[Addr.add_lit];exact hc
  obtain⟨v',w',hrun,h2,h3,_,h5⟩:=run_append_own_at (P:=P) w 0 t ty e i z size bytes ht hi hz hsize hby hzs hsz (.slice A n c) n xs hown ad m c' news hr.len hcells h1 h63 hbytes (aI _);have hfr:gX (gC A) w w':=by
   refine⟨h3.os,h3.tape,h3.output,h3.size,fun k hk hn=>h3.block k hk ?_⟩;rcases A with _|a
   ·simp[Value.ownBlock]
   ·simpa [Value.ownBlock]using hn
  have hv:∃A2 c2,v'=.slice A2 (n+m) c2:=by
   rcases h2.2 with ⟨rfl,h0⟩|⟨g,cap,cur,rfl,_⟩
   ·exact⟨none,0,by rw[h0]⟩
   ·exact⟨_,_,rfl⟩
  obtain⟨A2,c2,rfl⟩:=hv;refine⟨A2,c2,w',hrun,h2,hfr,fun b hb=>?_⟩;rcases A2 with _|a2
  ·simp at hb
  ·simp at hb;subst hb;rcases h5 with h5|h5
   ·left;rcases A with _|a
    ·simp[Value.ownBlock]at h5
    ·simp[Value.ownBlock]at h5;simp[h5]
   ·right;simpa [Value.ownBlock]using h5
theorem Pm {o:Oper}{a:Act}{K:Act→World→Prop}{Q:Exit→Act→World→Prop}(s x:Operand) (t:TypeId)
  (ho:o.op=.call { callee:=.builtin .append,args:=#[s,x],argTypes:=#[t,t] })
  (e:TypeId) (i:TypeInfo) (z:Value) (size bytes:Nat) (ht:P.underlying t=some (.slice e)) (hi:P.info? e=some i) (hz:i.zero=some z)
  (hsize:i.size=size) (hby:i.bytes=bytes) (hzs:z.cells.size=size) (hsz:0 < size)
  {A A':Option Addr}{n c m c':Nat}{xs news:List Value}(hs:a.eval s=.slice A n c) (hx:a.eval x=.slice A' m c') (hown:fP w e size A n c xs) (hr:Rd w size A' m c' news) (h1:∀u∈news,u.oneCell'=true)
  (N:Nat) (hN:n+m=N) (ys:List Value) (hys:xs++news=ys) (h63:N≤maxLen) (hbytes:N * bytes≤140737488355328)
  (h:∀A2 c2 w',fP w' e size A2 N c2 ys→gX (gC A) w w'→(∀b∈gC A2,b∈gC A∨b=w.heap.size)→K (a.put o.dst (.slice A2 N c2)) w'):o.wp P a w K Q:=by
 subst hN hys;obtain⟨A2,c2,w',hrun,h2,h3,h4⟩:=LW (P:=P) w t o.type e i z size bytes ht hi hz hsize hby hzs hsz hown hr h1 h63 hbytes;unfold Oper.wp execOp;simp only[ho,resolve,invoke,builtin,Sem.run_bind,Sem.run_pure,Result.andThen_ok,List.map_toArray,List.map_cons,List.map_nil,hs,hx,hrun];exact h A2 c2 w' h2 h3 h4
theorem En {ops:Array Oper}{rest:List Oper}{o:Oper}{a:Act}{Q:Exit→Act→World→Prop}(hgd:o.guard=none) (s x:Operand) (t:TypeId)
  (ho:o.op=.call { callee:=.builtin .append,args:=#[s,x],argTypes:=#[t,t] })
  (e:TypeId) (i:TypeInfo) (z:Value) (size bytes:Nat) (ht:P.underlying t=some (.slice e)) (hi:P.info? e=some i) (hz:i.zero=some z)
  (hsize:i.size=size) (hby:i.bytes=bytes) (hzs:z.cells.size=size) (hsz:0 < size)
  {A A':Option Addr}{n c m c':Nat}{xs news:List Value}(hs:a.eval s=.slice A n c) (hx:a.eval x=.slice A' m c') (hown:fP w e size A n c xs) (hr:Rd w size A' m c' news) (h1:∀u∈news,u.oneCell'=true)
  (N:Nat) (hN:n+m=N) (ys:List Value) (hys:xs++news=ys) (h63:N≤maxLen) (hbytes:N * bytes≤140737488355328)
  (h:∀A2 c2 w',fP w' e size A2 N c2 ys→gX (gC A) w w'→(∀b∈gC A2,b∈gC A∨b=w.heap.size)→wpList P ops Q rest (a.put o.dst (.slice A2 N c2)) w'):wpList P ops Q (o :: rest) a w:=
 wpList_plain hgd fun _ hK=>Pm w s x t ho e i z size bytes ht hi hz hsize hby hzs hsz hs hx hown hr h1 N hN ys hys h63 hbytes fun A2 c2 w' h2 h3 h4=>hK _ _ (h A2 c2 w' h2 h3 h4)
end
theorem Below.go {a b c:World}(h:Below a.heap.size a b) (k:Below b.heap.size b c):Below a.heap.size a c:=h.trans (k.mono h.size)
def glob (g:Nat):List Value:=match g with
 |0=>[.string ⟨#[115,101,108,108,101,114]⟩,.string ⟨#[102,114,111,109]⟩,.string ⟨#[116,111]⟩,.string ⟨#[99,117,114,114,101,110,99,121]⟩,.string ⟨#[98,111,120,101,115]⟩,.string ⟨#[109,97,114,107,115]⟩]
 |3=>[.string ⟨#[105,110,118,111,105,99,101]⟩,.string ⟨#[112,97,99,107,105,110,103]⟩,.string ⟨#[108,97,100,105,110,103]⟩,.string ⟨#[105,110,115,117,114,97,110,99,101]⟩,.string ⟨#[111,114,105,103,105,110]⟩,.string ⟨#[100,114,97,102,116]⟩]
 |5=>[.string ⟨#[97,98,111,118,101]⟩,.string ⟨#[97,108,108]⟩,.string ⟨#[97,110,100]⟩,.string ⟨#[97,110,121]⟩,.string ⟨#[97,112,112,108,105,99,97,110,116]⟩,.string ⟨#[98,101,108,111,119]⟩,.string ⟨#[98,101,110,101,102,105,99,105,97,114,121]⟩,.string ⟨#[99,104,97,110,103,101]⟩,.string ⟨#[99,111,110,102,105,114,109,101,114]⟩,.string ⟨#[99,111,112,105,101,115]⟩,.string ⟨#[99,114,101,100,105,116]⟩,.string ⟨#[100,97,121,115]⟩,.string ⟨#[100,114,97,102,116]⟩,.string ⟨#[101,120,112,105,114,121]⟩,.string ⟨#[102,114,111,109]⟩,.string ⟨#[105,110,115,117,114,97,110,99,101]⟩,.string ⟨#[105,110,118,111,105,99,101]⟩,.string ⟨#[105,115,115,117,101,114]⟩,.string ⟨#[108,97,100,105,110,103]⟩,.string ⟨#[108,97,116,101,115,116]⟩,.string ⟨#[110,111]⟩,.string ⟨#[110,111,116]⟩,.string ⟨#[111,102]⟩,.string ⟨#[111,114]⟩,.string ⟨#[111,114,105,103,105,110]⟩,.string ⟨#[112,97,99,107,105,110,103]⟩,.string ⟨#[112,97,114,116,105,97,108]⟩,.string ⟨#[115,105,103,104,116]⟩,.string ⟨#[115,117,109]⟩,.string ⟨#[116,101,110,111,114]⟩,.string ⟨#[116,111]⟩,.string ⟨#[119,97,110,116,115]⟩,.string ⟨#[119,105,116,104]⟩,.string ⟨#[119,105,116,104,105,110]⟩,.string ⟨#[121,101,115]⟩]
 |8=>[.int .u64 1,.int .u64 10,.int .u64 100,.int .u64 1000,.int .u64 10000,.int .u64 100000,.int .u64 1000000,.int .u64 10000000,.int .u64 100000000,.int .u64 1000000000,.int .u64 10000000000,.int .u64 100000000000,.int .u64 1000000000000,.int .u64 10000000000000,.int .u64 100000000000000,.int .u64 1000000000000000,.int .u64 10000000000000000,.int .u64 100000000000000000,.int .u64 1000000000000000000,.int .u64 10000000000000000000]
 |10=>[.int .u8 0,.int .u8 1,.int .u8 28,.int .u8 2,.int .u8 29,.int .u8 14,.int .u8 24,.int .u8 3,.int .u8 30,.int .u8 22,.int .u8 20,.int .u8 15,.int .u8 25,.int .u8 17,.int .u8 4,.int .u8 8,.int .u8 31,.int .u8 27,.int .u8 13,.int .u8 23,.int .u8 21,.int .u8 19,.int .u8 16,.int .u8 7,.int .u8 26,.int .u8 12,.int .u8 18,.int .u8 6,.int .u8 11,.int .u8 5,.int .u8 10,.int .u8 9]
 |11=>[.int .u8 0,.int .u8 1,.int .u8 56,.int .u8 2,.int .u8 57,.int .u8 49,.int .u8 28,.int .u8 3,.int .u8 61,.int .u8 58,.int .u8 42,.int .u8 50,.int .u8 38,.int .u8 29,.int .u8 17,.int .u8 4,.int .u8 62,.int .u8 47,.int .u8 59,.int .u8 36,.int .u8 45,.int .u8 43,.int .u8 51,.int .u8 22,.int .u8 53,.int .u8 39,.int .u8 33,.int .u8 30,.int .u8 24,.int .u8 18,.int .u8 12,.int .u8 5,.int .u8 63,.int .u8 55,.int .u8 48,.int .u8 27,.int .u8 60,.int .u8 41,.int .u8 37,.int .u8 16,.int .u8 46,.int .u8 35,.int .u8 44,.int .u8 21,.int .u8 52,.int .u8 32,.int .u8 23,.int .u8 11,.int .u8 54,.int .u8 26,.int .u8 40,.int .u8 15,.int .u8 34,.int .u8 20,.int .u8 31,.int .u8 10,.int .u8 25,.int .u8 14,.int .u8 19,.int .u8 9,.int .u8 13,.int .u8 8,.int .u8 7,.int .u8 6]
 |_=>[]
def FF (g:Nat):Bool:=[6,7].contains g
inductive AV where
 |any
 |bl (b:Bool)
 |int (k:IntKind) (x:Int)
 |str (s:bF)
 |v (x:Value)
 |agg (l:List AV)
 |tup (l:List AV)
 |ptr (k off:Nat)
 |hd (k:Nat)
 |ph (k:Nat)
 |sl (sz:Nat) (xs:List AV)
 |rp (cs:List AV) (j:Nat)
 |re (k sz i j:Nat)
 |clo (f:Nat) (cs:List AV)
 |mth (f:Nat) (cs:List AV)
abbrev AV.i (x:Int):AV:=.int .i64 x
def AV.cells:AV→List AV
 |.agg l=>l
 |x=>[x]
def AV.one:AV→Bool
 |.any=>false
 |.agg _=>false
 |.tup _=>false
 |_=>true
abbrev cF:=Nat→Option Value
abbrev cI:=Nat→Nat
def cM:cF:=fun _=>none
inductive bS (pub:cI) (w:World):cF→AV→Value→Prop
 |any {r:cF}(x:Value):bS pub w r .any x
 |bl {r:cF}(b:Bool):bS pub w r (.bl b) (.bool b)
 |int {r:cF}(k:IntKind) (x:Int):bS pub w r (.int k x) (.int k x)
 |str {r:cF}(s:bF):bS pub w r (.str s) (.string s)
 |v {r:cF}(x:Value) (h:x.oneCell'=true):bS pub w r (.v x) x
 |agg {r:cF}{l:List AV}{a:Array Value}(hl:a.size=l.length) (h:∀(i:Nat) (x:AV) (u:Value),l[i]?=some x→a[i]?=some u→bS pub w r x u):bS pub w r (.agg l) (.agg a)
 |tup {r:cF}{l:List AV}{a:Array Value}(hl:a.size=l.length) (h:∀(i:Nat) (x:AV) (u:Value),l[i]?=some x→a[i]?=some u→bS pub w r x u):bS pub w r (.tup l) (.tuple a)
 |ptr {r:cF}{k b:Nat}(off:Nat) (h:r k=some (.pointer (some ⟨b,0,none⟩))):bS pub w r (.ptr k off) (.pointer (some ⟨b,off,none⟩))
 |hd {r:cF}{k:Nat}{x:Value}(h:r k=some x) (h1:x.oneCell'=true):bS pub w r (.hd k) x
 |ph {r:cF}{k:Nat}{a:Array Value}{x:Value}(h:r k=some (.tuple a)) (h0:a[0]?=some x) (h1:x.oneCell'=true):bS pub w r (.ph k) x
 |sl {r:cF}{sz:Nat}{xs:List AV}{A:Option Addr}{c:Nat}(hc:xs.length≤c) (hm:c≤maxLen) (hn:A=none→xs=[]∧c=0) (hs:∀x∈xs,x.cells.length=sz∧x.cells.all AV.one=true)
  (g:Nat→Nat→Value) (hr:∀(i:Nat) (x:AV) (j:Nat) (u:AV),xs[i]?=some x→x.cells[j]?=some u→bS pub w cM u (g i j))
  (hg:∀(i:Nat) (x:AV) (j:Nat) (u:AV),xs[i]?=some x→x.cells[j]?=some u→∃b o,A=some ⟨b,o,none⟩∧o+i * sz+j < pub b∧w.cell? ⟨b,o+i * sz+j,none⟩=some (g i j)) :
  bS pub w r (.sl sz xs) (.slice A xs.length c)
 |rp {r:cF}{cs:List AV}{b o:Nat}(j:Nat) (ho:cs.all AV.one=true) (g:Nat→Value) (hr:∀(i:Nat) (u:AV),cs[i]?=some u→bS pub w cM u (g i))
  (hg:∀(i:Nat) (u:AV),cs[i]?=some u→o+i < pub b∧w.cell? ⟨b,o+i,none⟩=some (g i)):bS pub w r (.rp cs j) (.pointer (some ⟨b,o+j,none⟩))
 |re {r:cF}{k b n c:Nat}(sz i j:Nat) (h:r k=some (.slice (some ⟨b,0,none⟩) n c)):bS pub w r (.re k sz i j) (.pointer (some ⟨b,i * sz+j,none⟩))
 |clo {r:cF}{l:List AV}{a:Array Value}(f:Nat) (hl:a.size=l.length) (h:∀(i:Nat) (x:AV) (u:Value),l[i]?=some x→a[i]?=some u→bS pub w r x u):bS pub w r (.clo f l) (.func (.func f) #[] a)
 |mth {r:cF}{l:List AV}{a:Array Value}(f:Nat) (hl:a.size=l.length) (h:∀(i:Nat) (x:AV) (u:Value),l[i]?=some x→a[i]?=some u→bS pub w r x u):bS pub w r (.mth f l) (.func (.func f) a #[])
def mI (w:World) (b:Nat):Option Nat:=match w.heap[b]? with
 |some (.cells cs _ _)=>some cs.size
 |_=>none
theorem jB {w w':World}{b n:Nat}(h:w'.heap[b]?=w.heap[b]?) (hn:mI w b=some n):mI w' b=some n:=by unfold mI at *;rw[h];exact hn
theorem lX {w:World}{b n:Nat}(hn:mI w b=some n):b < w.heap.size:=by
 rcases aL b w.heap.size with h|h
 ·exact h
 ·unfold mI at hn;rw[Array.getElem?_eq_none h]at hn;cases hn
structure lV (pub:cI) (w:World) (pub':cI) (w':World):Prop where
 le:∀b,pub b≤pub' b
 cell:∀b i u,i < pub b→w.cell? ⟨b,i,none⟩=some u→w'.cell? ⟨b,i,none⟩=some u
 len:∀b n,0 < pub b→mI w b=some n→mI w' b=some n
theorem lV.refl (pub:cI) (w:World):lV pub w pub w:=⟨fun _=>aN _,fun _ _ _ _ h=>h,fun _ _ _ h=>h⟩
theorem lV.trans {p1 p2 p3:cI}{a b c:World}(h:lV p1 a p2 b) (k:lV p2 b p3 c):lV p1 a p3 c:=
 ⟨fun x=>Nat.le_trans (h.le x) (k.le x),fun x i u hi hu=>k.cell x i u (Nat.lt_of_lt_of_le hi (h.le x)) (h.cell x i u hi hu),fun x n hp hn=>k.len x n (Nat.lt_of_lt_of_le hp (h.le x)) (h.len x n hp hn)⟩
theorem bS.ext {pub pub':cI}{w w':World}(he:lV pub w pub' w') {r:cF}{a:AV}{x:Value}(h:bS pub w r a x):bS pub' w' r a x:=by
 induction h with
 |any x=>exact .any x
 |bl b=>exact .bl b
 |int k x=>exact .int k x
 |str s=>exact .str s
 |v x h=>exact .v x h
 |agg hl _ ih=>exact .agg hl ih
 |tup hl _ ih=>exact .tup hl ih
 |ptr off h=>exact .ptr off h
 |hd h h1=>exact .hd h h1
 |ph h h0 h1=>exact .ph h h0 h1
 |sl hc hm hn hs g _ hg ih=>
  refine .sl hc hm hn hs g ih fun i x j u hx hu=>?_
  obtain⟨b,o,hA,hp,hcell⟩:=hg i x j u hx hu;exact⟨b,o,hA,Nat.lt_of_lt_of_le hp (he.le b),he.cell _ _ _ hp hcell⟩
 |rp j ho g _ hg ih=>
  refine .rp j ho g ih fun i u hu=>?_
  obtain⟨hp,hcell⟩:=hg i u hu;exact⟨Nat.lt_of_lt_of_le hp (he.le _),he.cell _ _ _ hp hcell⟩
 |re sz i j h=>exact .re sz i j h
 |clo f hl _ ih=>exact .clo f hl ih
 |mth f hl _ ih=>exact .mth f hl ih
mutual
def AV.has (n:Nat):AV→Bool
 |.ptr k _=>k == n
 |.hd k=>k == n
 |.ph k=>k == n
 |.re k _ _ _=>k == n
 |.agg l=>AV.hasL n l
 |.tup l=>AV.hasL n l
 |.clo _ l=>AV.hasL n l
 |.mth _ l=>AV.hasL n l
 |_=>false
def AV.hasL (n:Nat):List AV→Bool
 |[]=>false
 |x :: l=>AV.has n x || AV.hasL n l
end
mutual
def AV.bnd (n:Nat):AV→Bool
 |.ptr k _=>Nat.blt k n
 |.hd k=>Nat.blt k n
 |.ph k=>Nat.blt k n
 |.re k _ _ _=>Nat.blt k n
 |.agg l=>AV.bndL n l
 |.tup l=>AV.bndL n l
 |.clo _ l=>AV.bndL n l
 |.mth _ l=>AV.bndL n l
 |_=>true
def AV.bndL (n:Nat):List AV→Bool
 |[]=>true
 |x :: l=>AV.bnd n x && AV.bndL n l
end
theorem AV.hasL_mem {n:Nat}:∀{l:List AV}{i:Nat}{x:AV},l[i]?=some x→AV.has n x=true→AV.hasL n l=true
 |[],i,x,h,_=>by simp at h
 |y :: l,0,x,h,hx=>by
  simp only[List.getElem?_cons_zero,bD]at h;subst h;unfold AV.hasL;rw[hx];rfl
 |y :: l,i+1,x,h,hx=>by
  simp only[List.getElem?_cons_succ]at h;unfold AV.hasL;rw[AV.hasL_mem h hx,Bool.or_true]
theorem AV.bndL_mem {n:Nat}:∀{l:List AV}{i:Nat}{x:AV},l[i]?=some x→AV.bndL n l=true→AV.bnd n x=true
 |[],i,x,h,_=>by simp at h
 |y :: l,0,x,h,hx=>by
  simp only[List.getElem?_cons_zero,bD]at h;subst h;unfold AV.bndL at hx;simp only[aO]at hx;exact hx.1
 |y :: l,i+1,x,h,hx=>by
  simp only[List.getElem?_cons_succ]at h;unfold AV.bndL at hx;simp only[aO]at hx;exact AV.bndL_mem h hx.2
theorem bS.congr {pub:cI}{w:World}{r r':cF}{a:AV}{x:Value}(h:bS pub w r a x):(∀n,a.has n=true→r' n=r n)→bS pub w r' a x:=by
 induction h with
 |any x=>exact fun _=>.any x
 |bl b=>exact fun _=>.bl b
 |int k x=>exact fun _=>.int k x
 |str s=>exact fun _=>.str s
 |v x h=>exact fun _=>.v x h
 |agg hl _ ih=>exact fun hk=>.agg hl fun i x u hx hu=>ih i x u hx hu fun n hn=>hk n (by unfold AV.has;exact AV.hasL_mem hx hn)
 |tup hl _ ih=>exact fun hk=>.tup hl fun i x u hx hu=>ih i x u hx hu fun n hn=>hk n (by unfold AV.has;exact AV.hasL_mem hx hn)
 |ptr off h=>exact fun hk=>.ptr off (by rw[hk _ (by simp[AV.has])];exact h)
 |hd h h1=>exact fun hk=>.hd (by rw[hk _ (by simp[AV.has])];exact h) h1
 |ph h h0 h1=>exact fun hk=>.ph (by rw[hk _ (by simp[AV.has])];exact h) h0 h1
 |sl hc hm hn hs g hr hg _=>exact fun _=>.sl hc hm hn hs g hr hg
 |rp j ho g hr hg _=>exact fun _=>.rp j ho g hr hg
 |re sz i j h=>exact fun hk=>.re sz i j (by rw[hk _ (by simp[AV.has])];exact h)
 |clo f hl _ ih=>exact fun hk=>.clo f hl fun i x u hx hu=>ih i x u hx hu fun n hn=>hk n (by unfold AV.has;exact AV.hasL_mem hx hn)
 |mth f hl _ ih=>exact fun hk=>.mth f hl fun i x u hx hu=>ih i x u hx hu fun n hn=>hk n (by unfold AV.has;exact AV.hasL_mem hx hn)
theorem bS.mono {pub:cI}{w:World}{r r':cF}{a:AV}{x:Value}(h:bS pub w r a x):(∀n y,r n=some y→r' n=some y)→bS pub w r' a x:=by
 induction h with
 |any x=>exact fun _=>.any x
 |bl b=>exact fun _=>.bl b
 |int k x=>exact fun _=>.int k x
 |str s=>exact fun _=>.str s
 |v x h=>exact fun _=>.v x h
 |agg hl _ ih=>exact fun hk=>.agg hl fun i x u hx hu=>ih i x u hx hu hk
 |tup hl _ ih=>exact fun hk=>.tup hl fun i x u hx hu=>ih i x u hx hu hk
 |ptr off h=>exact fun hk=>.ptr off (hk _ _ h)
 |hd h h1=>exact fun hk=>.hd (hk _ _ h) h1
 |ph h h0 h1=>exact fun hk=>.ph (hk _ _ h) h0 h1
 |sl hc hm hn hs g hr hg _=>exact fun _=>.sl hc hm hn hs g hr hg
 |rp j ho g hr hg _=>exact fun _=>.rp j ho g hr hg
 |re sz i j h=>exact fun hk=>.re sz i j (hk _ _ h)
 |clo f hl _ ih=>exact fun hk=>.clo f hl fun i x u hx hu=>ih i x u hx hu hk
 |mth f hl _ ih=>exact fun hk=>.mth f hl fun i x u hx hu=>ih i x u hx hu hk
mutual
theorem AV.bnd_has {n m:Nat}:∀(a:AV),a.bnd n=true→a.has m=true→m < n
 |.any,_,h=>by simp[AV.has]at h
 |.bl _,_,h=>by simp[AV.has]at h
 |.int _ _,_,h=>by simp[AV.has]at h
 |.str _,_,h=>by simp[AV.has]at h
 |.v _,_,h=>by simp[AV.has]at h
 |.sl _ _,_,h=>by simp[AV.has]at h
 |.rp _ _,_,h=>by simp[AV.has]at h
 |.ptr k _,hb,h=>by simp[AV.has]at h;subst h;simpa [AV.bnd,Nat.blt_eq]using hb
 |.hd k,hb,h=>by simp[AV.has]at h;subst h;simpa [AV.bnd,Nat.blt_eq]using hb
 |.ph k,hb,h=>by simp[AV.has]at h;subst h;simpa [AV.bnd,Nat.blt_eq]using hb
 |.re k _ _ _,hb,h=>by simp[AV.has]at h;subst h;simpa [AV.bnd,Nat.blt_eq]using hb
 |.agg l,hb,h=>AV.bndL_has l (by simpa [AV.bnd]using hb) (by simpa [AV.has]using h)
 |.tup l,hb,h=>AV.bndL_has l (by simpa [AV.bnd]using hb) (by simpa [AV.has]using h)
 |.clo _ l,hb,h=>AV.bndL_has l (by simpa [AV.bnd]using hb) (by simpa [AV.has]using h)
 |.mth _ l,hb,h=>AV.bndL_has l (by simpa [AV.bnd]using hb) (by simpa [AV.has]using h)
theorem AV.bndL_has {n m:Nat}:∀(l:List AV),AV.bndL n l=true→AV.hasL m l=true→m < n
 |[],_,h=>by simp[AV.hasL]at h
 |x :: l,hb,h=>by
  simp only[AV.bndL,aO]at hb;simp only[AV.hasL,Bool.or_eq_true]at h;rcases h with h|h
  ·exact AV.bnd_has x hb.1 h
  ·exact AV.bndL_has l hb.2 h
end
mutual
def AV.kill (n:Nat):AV→AV→AV
 |.ptr k o,_=>if k=n then .any else .ptr k o
 |.hd k,y=>if k=n then y else .hd k
 |.ph k,_=>if k=n then .any else .ph k
 |.re k a b c,_=>if k=n then .any else .re k a b c
 |.agg l,y=>.agg (AV.killL n l y)
 |.tup l,y=>.tup (AV.killL n l y)
 |.clo f l,y=>.clo f (AV.killL n l y)
 |.mth f l,y=>.mth f (AV.killL n l y)
 |.any,_=>.any
 |.bl b,_=>.bl b
 |.int k x,_=>.int k x
 |.str s,_=>.str s
 |.v x,_=>.v x
 |.sl a b,_=>.sl a b
 |.rp a b,_=>.rp a b
def AV.killL (n:Nat):List AV→AV→List AV
 |[],_=>[]
 |x :: l,y=>AV.kill n x y :: AV.killL n l y
end
theorem AV.killL_map (n:Nat) (y:AV):∀l,AV.killL n l y=l.map (fun x=>AV.kill n x y)
 |[]=>by unfold AV.killL;rfl
 |x :: l=>by unfold AV.killL;rw[AV.killL_map n y l];rfl
theorem AV.killL_get {n:Nat}{y:AV}{l:List AV}{i:Nat}{z:AV}(h:(AV.killL n l y)[i]?=some z):∃x,l[i]?=some x∧z=x.kill n y:=by
 rw[AV.killL_map,aD]at h;cases hx:l[i]? with
 |none=>rw[hx]at h;cases h
 |some x=>rw[hx]at h;cases h;exact⟨x,rfl,rfl⟩
theorem bS.kill {pub:cI}{w:World}{r r':cF}{a:AV}{x:Value}{n:Nat}{y:AV}(h:bS pub w r a x) :
  (∀m,m≠n→r' m=r m)→(∀z,r n=some z→bS pub w r' y z)→bS pub w r' (a.kill n y) x:=by
 induction h with
 |any x=>exact fun _ _=>by unfold AV.kill;exact .any x
 |bl b=>exact fun _ _=>by unfold AV.kill;exact .bl b
 |int k x=>exact fun _ _=>by unfold AV.kill;exact .int k x
 |str s=>exact fun _ _=>by unfold AV.kill;exact .str s
 |v x h=>exact fun _ _=>by unfold AV.kill;exact .v x h
 |agg hl _ ih=>
  intro hk hy;unfold AV.kill;refine .agg (by rw[AV.killL_map,aJ];exact hl) fun i z u hz hu=>?_
  obtain⟨x,hx,rfl⟩:=AV.killL_get hz;exact ih i x u hx hu hk hy
 |tup hl _ ih=>
  intro hk hy;unfold AV.kill;refine .tup (by rw[AV.killL_map,aJ];exact hl) fun i z u hz hu=>?_
  obtain⟨x,hx,rfl⟩:=AV.killL_get hz;exact ih i x u hx hu hk hy
 |@ptr _ k b off h=>
  intro hk hy;unfold AV.kill
  split
  ·exact .any _
  ·exact .ptr off (by rw[hk _ (by assumption)];exact h)
 |@hd _ k z h h1=>
  intro hk hy;unfold AV.kill
  split
  ·rename_i e;subst e;exact hy _ h
  ·exact .hd (by rw[hk _ (by assumption)];exact h) h1
 |@ph _ k a z h h0 h1=>
  intro hk hy;unfold AV.kill
  split
  ·exact .any _
  ·exact .ph (by rw[hk _ (by assumption)];exact h) h0 h1
 |sl hc hm hn hs g hr hg _=>exact fun _ _=>by unfold AV.kill;exact .sl hc hm hn hs g hr hg
 |rp j ho g hr hg _=>exact fun _ _=>by unfold AV.kill;exact .rp j ho g hr hg
 |@re _ k b n c sz i j h=>
  intro hk hy;unfold AV.kill
  split
  ·exact .any _
  ·exact .re sz i j (by rw[hk _ (by assumption)];exact h)
 |clo f hl _ ih=>
  intro hk hy;unfold AV.kill;refine .clo f (by rw[AV.killL_map,aJ];exact hl) fun i z u hz hu=>?_
  obtain⟨x,hx,rfl⟩:=AV.killL_get hz;exact ih i x u hx hu hk hy
 |mth f hl _ ih=>
  intro hk hy;unfold AV.kill;refine .mth f (by rw[AV.killL_map,aJ];exact hl) fun i z u hz hu=>?_
  obtain⟨x,hx,rfl⟩:=AV.killL_get hz;exact ih i x u hx hu hk hy
structure bO (pub:cI) (w:World) (r:cF) (l:List AV) (us:List Value):Prop where
 len:us.length=l.length
 at_:∀(i:Nat) (x:AV) (u:Value),l[i]?=some x→us[i]?=some u→bS pub w r x u
section
variable {pub pub':cI}{w w':World}{r r':cF}{l m:List AV}{us vs:List Value}
theorem bO.ext (he:lV pub w pub' w') (h:bO pub w r l us):bO pub' w' r l us:=⟨h.len,fun i x u hx hu=>(h.at_ i x u hx hu).ext he⟩
theorem bO.congr (h:bO pub w r l us) (hk:∀n,AV.hasL n l=true→r' n=r n):bO pub w r' l us:=
 ⟨h.len,fun i x u hx hu=>(h.at_ i x u hx hu).congr fun n hn=>hk n (AV.hasL_mem hx hn)⟩
theorem bO.get (h:bO pub w r l us) {i:Nat}{x:AV}(hx:l[i]?=some x):∃u,us[i]?=some u∧bS pub w r x u:=by
 have hi:i < us.length:=by rw[h.len];exact(aA.1 hx).1
 exact⟨us[i],aB hi,h.at_ i x _ hx (aB hi)⟩
theorem bO.nil:bO pub w r [] []:=⟨rfl,fun i x u h=>by simp at h⟩
theorem bO.cons {x:AV}{u:Value}(hx:bS pub w r x u) (h:bO pub w r l us):bO pub w r (x :: l) (u :: us):=
 ⟨by simp[h.len],fun i y z hy hz=>by
  cases i with
  |zero=>simp at hy hz;subst hy hz;exact hx
  |succ i=>exact h.at_ i y z (by simpa using hy) (by simpa using hz)⟩
theorem bO.cons_inv {x:AV}(h:bO pub w r (x :: l) us):∃u us',us=u :: us'∧bS pub w r x u∧bO pub w r l us':=by
 cases us with
 |nil=>have:=h.len;simp at this
 |cons u us'=>exact⟨u,us',rfl,h.at_ 0 x u rfl rfl,⟨by have:=h.len;simpa using this,fun i y z hy hz=>h.at_ (i+1) y z (by simpa using hy) (by simpa using hz)⟩⟩
theorem bO.nil_inv (h:bO pub w r [] us):us=[]:=aQ (by simpa using h.len)
theorem bO.app (h:bO pub w r l us) (k:bO pub w r m vs):bO pub w r (l++m) (us++vs):=
 ⟨by simp[h.len,k.len],fun i x u hx hu=>by
  by_cases hi:i < l.length
  ·rw[List.getElem?_append_left hi]at hx;rw[List.getElem?_append_left (by rw[h.len];exact hi)]at hu;exact h.at_ i x u hx hu
  ·rw[List.getElem?_append_right (by omega)]at hx;rw[List.getElem?_append_right (by rw[h.len];omega),h.len]at hu;exact k.at_ _ x u hx hu⟩
theorem bO.set (h:bO pub w r l us) (i:Nat) {x:AV}{u:Value}(hx:bS pub w r x u):bO pub w r (l.set i x) (us.set i u):=
 ⟨by simp[h.len],fun j y z hy hz=>by
  by_cases e:i=j
  ·subst e;by_cases hi:i < l.length
   ·rw[aP hi]at hy;rw[aP (by rw[h.len];exact hi)]at hz;simp at hy hz;subst hy hz;exact hx
   ·rw[List.getElem?_eq_none (by simp;omega)]at hy;cases hy
  ·rw[aT e]at hy hz;exact h.at_ j y z hy hz⟩
theorem bO.take (h:bO pub w r l us) (n:Nat):bO pub w r (l.take n) (us.take n):=
 ⟨by simp[h.len],fun i x u hx hu=>by
  rw[List.getElem?_take]at hx hu
  split at hx
  ·rename_i hi;rw[aF hi]at hu;exact h.at_ i x u hx hu
  ·cases hx⟩
theorem bO.drop (h:bO pub w r l us) (n:Nat):bO pub w r (l.drop n) (us.drop n):=
 ⟨by simp[h.len],fun i x u hx hu=>by
  rw[List.getElem?_drop]at hx hu;exact h.at_ _ x u hx hu⟩
end
theorem bS.one_ {pub:cI}{w:World}{r:cF}{x:AV}{u:Value}(h:bS pub w r x u) (hx:x.one=true):u.oneCell'=true:=by
 cases h<;>first|rfl|assumption|(simp[AV.one]at hx)
theorem Hx {u:Value}(h:u.oneCell'=true):u.cells=#[u]:=by cases u<;>first|rfl|cases h
def AV.flat:AV→Bool
 |.agg l=>l.all AV.one
 |x=>x.one
theorem AV.cells_one {x:AV}(h:x.one=true):x.cells=[x]:=by cases x<;>first|rfl|simp[AV.one]at h
theorem bS.cells_ {pub:cI}{w:World}{r:cF}{x:AV}{u:Value}(h:bS pub w r x u) (hx:x.flat=true) :
  bO pub w r x.cells u.cells.toList∧u.cells.all (·.oneCell')=true:=by
 by_cases hone:x.one=true
 ·have h1:=h.one_ hone;rw[AV.cells_one hone,Hx h1];exact⟨.cons h .nil,by simp[h1]⟩
 ·cases h with
  |agg hl h=>
   refine⟨⟨by simpa [AV.cells,Value.cells]using hl,fun i y z hy hz=>h i y z hy (by simpa [Value.cells]using hz)⟩,?_⟩;simp only[AV.flat,aS]at hx;simp only[Value.cells,Array.all_eq_true];intro i hi;have hi':=hi;rw[hl]at hi';exact(h i _ _ (aB hi') (aK hi)).one_ (hx _ (List.getElem_mem hi'))
  |_=>simp_all [AV.flat,AV.one]
inductive cC where
 |dead
 |blk (t:TypeId) (cs:List AV)
 |row (t sz:Nat) (xs:List AV)
 |tip (t sz:Nat) (xs:List AV)
 |map (t:TypeId) (es:List (AV×AV))
 |hrow (t sz n:Nat) (cs:List AV)
 |pool (t:TypeId) (es:List (AV×AV×List cC)) (outs:List (Nat×AV))
 |iter (x:AV) (since:Nat) (seen:List Nat)
def mN:Value→List Nat
 |.pointer A=>gC A
 |.slice A _ _=>gC A
 |.map (some b)=>[b]
 |_=>[]
def Oc:Value→List Nat
 |.tuple a=>a.toList.flatMap mN
 |v=>mN v
def bY:Value→List Nat
 |.pointer A=>gC A
 |.slice A _ _=>gC A
 |.map (some b)=>[b]
 |.tuple a=>a.toList.flatMap Oc
 |_=>[]
def E1:Value→Bool
 |.tuple _=>true
 |_=>false
theorem iM {v:Value}(h:E1 v=false):bY v=mN v:=by
 cases v<;>first|rfl|(simp[E1]at h;done)|(rename_i x;cases x<;>rfl)
def cN (b:Nat) (inner:List (List Value)):Value:=.tuple ((.map (some b) :: inner.map fun vs=>.tuple vs.toArray).toArray)
theorem dA (b:Nat) (inner:List (List Value)):bY (cN b inner)=b :: inner.flatMap (fun vs=>vs.flatMap mN):=by
 simp[bY,cN,Oc,mN,List.flatMap_map]
def Kn (vs:List Value):cF:=fun j=>vs[j]?
def kK (w:World) (e:TypeId) (size:Nat) (x:Bool) (A:Option Addr) (d n c:Nat) (xs:List Value):Prop:=
 (A=none∧d=0∧n=0∧c=0∧xs=[])∨∃g cur,A=some ⟨g,d,none⟩∧gF w g e cur∧n≤c∧c≤maxLen∧d+c * size≤cur.size∧(cur.toList.drop d).take (n * size)=xs∧(x=true→d=0∧cur.size=c * size)
theorem fP.offs {w:World}{e size n c:Nat}{x:Bool}{A:Option Addr}{xs:List Value}(h:fP w e size A n c xs):kK w e size x A 0 n c xs:=by
 rcases h.cases_ with ⟨rfl,rfl,rfl,rfl⟩|⟨g,cur,rfl,hb,r1,r2,r3,r4⟩
 ·exact .inl ⟨rfl,rfl,rfl,rfl,rfl⟩
 ·exact .inr ⟨g,cur,rfl,hb,r1,r2,by omega,r4,fun _=>⟨rfl,r3⟩⟩
section
variable {w:World}{e size d n c:Nat}{x:Bool}{A:Option Addr}{xs:List Value}
theorem kK.own (h:kK w e size true A d n c xs):fP w e size A n c xs∧d=0:=by
 rcases h with ⟨rfl,rfl,rfl,rfl,rfl⟩|⟨g,cur,rfl,hb,r1,r2,_,r4,r3⟩
 ·exact⟨fP.nil _ _ _,rfl⟩
 ·obtain⟨rfl,r5⟩:=r3 rfl;exact⟨fP.of_blk hb r1 r2 r5 r4,rfl⟩
theorem kK.len (h:kK w e size x A d n c xs):xs.length=n * size:=by
 rcases h with ⟨_,_,rfl,_,rfl⟩|⟨g,cur,_,_,r1,_,r3,r4,_⟩
 ·simp
 ·have:=Nat.mul_le_mul_right size r1;rw[←r4,aR,List.length_drop,bA];omega
theorem kK.lt (h:kK w e size x A d n c xs):∀b∈gC A,b < w.heap.size:=by
 rcases h with ⟨rfl,_⟩|⟨g,cur,rfl,hb,_⟩
 ·simp
 ·simp[hb.lt]
theorem kK.caps (h:kK w e size x A d n c xs):n≤c∧c≤maxLen∧(A=none→n=0∧c=0):=by
 rcases h with ⟨rfl,_,rfl,rfl,_⟩|⟨g,cur,rfl,hb,r1,r2,_⟩
 ·exact⟨aN _,aI _,fun _=>⟨rfl,rfl⟩⟩
 ·exact⟨r1,r2,fun h=>by cases h⟩
end
inductive dR (pub:cI) (w:World):cF→Option Value→cC→Prop
 |dead {r:cF}:dR pub w r none .dead
 |blk {r:cF}{t:TypeId}{cs:List AV}{b:Nat}{arr:Array Value}(hb:gF w b t arr) (hc:bO pub w r cs arr.toList) (hp:pub b=0):dR pub w r (some (.pointer (some ⟨b,0,none⟩))) (.blk t cs)
 |row {r:cF}{t sz:Nat}{xs:List AV}{A:Option Addr}{c:Nat}{us:List Value}(ho:fP w t sz A xs.length c us) (hc:bO pub w cM (xs.flatMap AV.cells) us)
  (hs:∀x∈xs,x.cells.length=sz∧x.cells.all AV.one=true) (hp:∀b∈gC A,pub b=0):dR pub w r (some (.slice A xs.length c)) (.row t sz xs)
 |tip {r:cF}{t sz:Nat}{xs:List AV}{A:Option Addr}{d c:Nat}{z:Bool}{us:List Value}(ho:kK w t sz z A d xs.length c us) (hc:bO pub w cM (xs.flatMap AV.cells) us)
  (hs:∀x∈xs,x.cells.length=sz∧x.cells.all AV.one=true) (hp:∀b∈gC A,d+xs.length * sz≤pub b∧(c≠0→pub b=d+xs.length * sz)):dR pub w r (some (.slice A xs.length c)) (.tip t sz xs)
 |map {r:cF}{t:TypeId}{es:List (AV×AV)}{b:Nat}{ms:Array MapEntry}{clock:Nat}(hb:w.heap[b]?=some (.map ms clock)) (hl:ms.size=es.length)
  (hk:bO pub w cM (es.map (·.1)) (ms.toList.map (·.key))) (hv:bO pub w cM (es.map (·.2)) (ms.toList.map (·.val))) (hp:pub b=0)
  (hbo:Nat.blt 0 t=true→clock=ms.size∧∀(i:Nat) (m:MapEntry),ms[i]?=some m→m.born=i):dR pub w r (some (.map (some b))) (.map t es)
 |hrow {r:cF}{t sz n:Nat}{cs:List AV}{A:Option Addr}{c:Nat}{us:List Value}(ho:fP w t sz A n c us) (hc:bO pub w r cs us) (hp:∀b∈gC A,pub b=0):dR pub w r (some (.slice A n c)) (.hrow t sz n cs)
 |pool {r:cF}{t:TypeId}{es:List (AV×AV×List cC)}{outs:List (Nat×AV)}{b:Nat}{ms:Array MapEntry}{inner:List (List Value)}(hb:w.heap[b]?=some (.map ms ms.size)) (hl:ms.size=es.length) (hn:inner.length=es.length)
  (hborn:∀(i:Nat) (m:MapEntry),ms[i]?=some m→m.born=i) (hk:bO pub w cM (es.map (·.1)) (ms.toList.map (·.key)))
  (hout:∀(i:Nat) (x:AV),(i,x)∈outs→inner[i]?=some []∧∀m,ms[i]?=some m→bS pub w r x m.val)
  (hin:∀(i:Nat) (e:AV×AV×List cC) (vs:List Value) (m:MapEntry),(∀x,(i,x)∉outs)→es[i]?=some e→inner[i]?=some vs→ms[i]?=some m→vs.length=e.2.2.length∧(∀v∈vs,E1 v=false)∧bS pub w (Kn vs) e.2.1 m.val)
  (hie:∀(i:Nat) (e:AV×AV×List cC) (vs:List Value) (j:Nat) (d:cC),(∀x,(i,x)∉outs)→es[i]?=some e→inner[i]?=some vs→e.2.2[j]?=some d→dR pub w (Kn vs) vs[j]? d)
  (hnd:(bY (cN b inner)).Nodup) (hp:pub b=0):dR pub w r (some (cN b inner)) (.pool t es outs)
 |iter {r:cF}{x:AV}{since:Nat}{seen:List Nat}{b m:Nat}(hb:w.heap[b]?=some (.mapIter (some m) since seen.toArray since)) (hx:bS pub w r x (.map (some m))) (hp:pub b=0):dR pub w r (some (.pointer (some ⟨b,0,none⟩))) (.iter x since seen)
theorem dR.foot_lt {pub:cI}{w:World}{r:cF}{h:Option Value}{e:cC}(he:dR pub w r h e):∀x,h=some x→∀b∈bY x,b < w.heap.size:=by
 induction he with
 |dead=>intro x hx;cases hx
 |blk hb _ _=>intro x hx b hb';cases hx;simp[bY]at hb';subst hb';exact hb.lt
 |row ho _ _ _=>intro x hx;cases hx;exact ho.lt
 |tip ho _ _ _=>intro x hx;cases hx;exact ho.lt
 |map hb _ _ _ _ _=>intro x hx b hb';cases hx;simp[bY]at hb';subst hb';exact lt_of_block hb
 |hrow ho _ _=>intro x hx;cases hx;exact ho.lt
 |iter hb _ _=>intro x hx b hb';cases hx;simp[bY]at hb';subst hb';exact lt_of_block hb
 |@pool r t es outs b ms inner hb hl hn hborn hk hout hin hie hnd hp ih=>
  intro x hx b' hb';cases hx;rw[dA]at hb';rcases List.mem_cons.1 hb' with rfl|hb'
  ·exact lt_of_block hb
  obtain⟨vs,hvs,hb'⟩:=List.mem_flatMap.1 hb';obtain⟨v,hv,hb'⟩:=List.mem_flatMap.1 hb';obtain⟨i,hi⟩:=aU hvs;by_cases ho:∃x,(i,x)∈outs
  ·obtain⟨x,hx⟩:=ho;have:=(hout i x hx).1;rw[hi]at this;cases this;cases hv
  ·have ho':∀x,(i,x)∉outs:=fun x hx=>ho ⟨x,hx⟩
   have hil:=(aA.1 hi).1;obtain⟨h1,h2,_⟩:=hin i es[i] vs ms[i] ho' (aB (by omega)) hi (aK (by omega));obtain⟨j,hj⟩:=aU hv;have hjl:=(aA.1 hj).1;refine ih i _ vs j _ ho' (aB (by omega)) hi (aB (by omega)) v hj b' ?_;rw[iM (h2 v hv)];exact hb'
structure Fr (S:Nat→Prop) (pub:cI) (w:World) (pub':cI) (w':World):Prop where
 os:w'.os=w.os
 tape:w'.tape=w.tape
 output:w'.output=w.output
 size:w.heap.size≤w'.heap.size
 keep:∀b,b < w.heap.size→¬S b→w'.heap[b]?=w.heap[b]?∧pub' b=pub b
 ext:lV pub w pub' w'
theorem Fr.refl (S:Nat→Prop) (pub:cI) (w:World):Fr S pub w pub w:=⟨rfl,rfl,rfl,aN _,fun _ _ _=>⟨rfl,rfl⟩,lV.refl _ _⟩
theorem Fr.trans {S T:Nat→Prop}{p1 p2 p3:cI}{a b c:World}(h:Fr S p1 a p2 b) (k:Fr T p2 b p3 c) (hs:∀x,T x→S x∨a.heap.size≤x):Fr S p1 a p3 c:=
 ⟨k.os.trans h.os,k.tape.trans h.tape,k.output.trans h.output,Nat.le_trans h.size k.size,fun x hx hn=>by
  obtain⟨h1,h2⟩:=h.keep x hx hn;obtain⟨k1,k2⟩:=k.keep x (Nat.lt_of_lt_of_le hx h.size) (fun ht=>by rcases hs x ht with h3|h3;exact hn h3;omega);exact⟨k1.trans h1,k2.trans h2⟩,h.ext.trans k.ext⟩
theorem Fr.mono {S T:Nat→Prop}{pub pub':cI}{w w':World}(h:Fr S pub w pub' w') (hs:∀x,S x→T x∨w.heap.size≤x):Fr T pub w pub' w':=
 ⟨h.os,h.tape,h.output,h.size,fun b hb hn=>h.keep b hb (fun hS=>by rcases hs b hS with h1|h1;exact hn h1;omega),h.ext⟩
theorem Fr.draws {S:Nat→Prop}{pub pub':cI}{w w':World}(h:Fr S pub w pub' w'):Fr S pub w pub' w'.drew:=⟨h.os,h.tape,h.output,h.size,h.keep,h.ext.le,h.ext.cell,h.ext.len⟩
theorem fP.frS {S:Nat→Prop}{pub pub':cI}{w w':World}{t sz n c:Nat}{A:Option Addr}{us:List Value}(ho:fP w t sz A n c us) (hf:Fr S pub w pub' w') (hd:∀b∈gC A,¬S b):fP w' t sz A n c us:=by
 rcases ho.cases_ with ⟨rfl,rfl,rfl,rfl⟩|⟨g,cur,rfl,hg,r1,r2,r3,r4⟩
 ·exact fP.nil _ _ _
 ·exact fP.of_blk ((hf.keep g hg.lt (hd g (by simp))).1.trans hg) r1 r2 r3 r4
theorem kK.frS {S:Nat→Prop}{pub pub':cI}{w w':World}{t sz d n c:Nat}{x:Bool}{A:Option Addr}{us:List Value}(ho:kK w t sz x A d n c us) (hf:Fr S pub w pub' w') (hd:∀b∈gC A,¬S b):kK w' t sz x A d n c us:=by
 rcases ho with ⟨rfl,rfl,rfl,rfl,rfl⟩|⟨g,cur,rfl,hg,r1,r2,r3,r4,r5⟩
 ·exact .inl ⟨rfl,rfl,rfl,rfl,rfl⟩
 ·exact .inr ⟨g,cur,rfl,(hf.keep g hg.lt (hd g (by simp))).1.trans hg,r1,r2,r3,r4,r5⟩
theorem dR.frm {S:Nat→Prop}{pub pub':cI}{w w':World}{r r':cF}{h:Option Value}{e:cC}(he:dR pub w r h e) (hf:Fr S pub w pub' w')
  (hd:∀x,h=some x→∀b∈bY x,¬S b) (hr:∀n y,r n=some y→r' n=some y):dR pub' w' r' h e:=by
 induction he generalizing r' with
 |dead=>exact .dead
 |@blk r t cs b arr hb hc hp=>
  obtain⟨k1,k2⟩:=hf.keep b hb.lt (hd _ rfl b (by simp[bY]));exact .blk (k1.trans hb) ⟨hc.len,fun i x u hx hu=>((hc.at_ i x u hx hu).ext hf.ext).mono hr⟩ (k2.trans hp)
 |row ho hc hs hp=>
  exact .row (ho.frS hf (hd _ rfl)) (hc.ext hf.ext) hs fun b hb=>(hf.keep b (ho.lt b hb) (hd _ rfl b hb)).2.trans (hp b hb)
 |tip ho hc hs hp=>
  exact .tip (ho.frS hf (hd _ rfl)) (hc.ext hf.ext) hs fun b hb=>by rw[(hf.keep b (ho.lt b hb) (hd _ rfl b hb)).2];exact hp b hb
 |@map r t es b ms clock hb hl hk hv hp hbo=>
  obtain⟨k1,k2⟩:=hf.keep b (lt_of_block hb) (hd _ rfl b (by simp[bY]));exact .map (k1.trans hb) hl (hk.ext hf.ext) (hv.ext hf.ext) (k2.trans hp) hbo
 |hrow ho hc hp=>
  exact .hrow (ho.frS hf (hd _ rfl)) ⟨hc.len,fun i x u hx hu=>((hc.at_ i x u hx hu).ext hf.ext).mono hr⟩ fun b hb=>(hf.keep b (ho.lt b hb) (hd _ rfl b hb)).2.trans (hp b hb)
 |@iter r x since seen b m hb hx hp=>
  obtain⟨k1,k2⟩:=hf.keep b (lt_of_block hb) (hd _ rfl b (by simp[bY]));exact .iter (k1.trans hb) ((hx.ext hf.ext).mono hr) (k2.trans hp)
 |@pool r t es outs b ms inner hb hl hn hborn hk hout hin hie hnd hp ih=>
  have hfs:=fun b' (hb':b'∈bY (cN b inner))=>hd _ rfl b' hb'
  rw[dA]at hfs;obtain⟨k1,k2⟩:=hf.keep b (lt_of_block hb) (hfs b (by simp));refine .pool (k1.trans hb) hl hn hborn (hk.ext hf.ext) (fun i x hx=>⟨(hout i x hx).1,fun m hm=>(((hout i x hx).2 m hm).ext hf.ext).mono hr⟩) (fun i e vs m ho he hi hm=>?_) (fun i e vs j d ho he hi hj=>?_) hnd (k2.trans hp)
  ·obtain⟨h1,h2,h3⟩:=hin i e vs m ho he hi hm;exact⟨h1,h2,h3.ext hf.ext⟩
  ·refine ih i e vs j d ho he hi hj (fun v hv b' hb'=>hfs b' ?_) (fun _ _ h=>h);have hvm:v∈vs:=aC hv;have hil:i < ms.size:=by rw[hl];exact(aA.1 he).1
   obtain⟨_,h2,_⟩:=hin i e vs ms[i] ho he hi (aK hil);rw[iM (h2 v hvm)]at hb';exact aV _ (List.mem_flatMap.2 ⟨vs,aC hi,List.mem_flatMap.2 ⟨v,hvm,hb'⟩⟩)
structure gB (pub:cI) (w:World):Prop where
 at_:∀(g i:Nat) (u:Value),(glob g)[i]?=some u→i < pub g∧w.cell? ⟨g,i,none⟩=some u∧mI w g=some (glob g).length
 err:∀g,FF g=true→∃t p,0 < pub g∧w.cell? ⟨g,0,none⟩=some (.iface t p)∧mI w g=some 1
theorem gB.ext {pub pub':cI}{w w':World}(h:gB pub w) (he:lV pub w pub' w'):gB pub' w':=
 ⟨fun g i u hu=>⟨Nat.lt_of_lt_of_le (h.at_ g i u hu).1 (he.le g),he.cell g i u (h.at_ g i u hu).1 (h.at_ g i u hu).2.1,he.len g _ (Nat.lt_of_le_of_lt (aI _) (h.at_ g i u hu).1) (h.at_ g i u hu).2.2⟩,
  fun g hg=>by
   obtain⟨t,p,h1,h2,h3⟩:=h.err g hg;exact⟨t,p,Nat.lt_of_lt_of_le h1 (he.le g),he.cell g 0 _ h1 h2,he.len g _ h1 h3⟩⟩
theorem gB.errBlock {pub:cI}{w:World}(h:gB pub w) {g:Nat}(hg:FF g=true):∃t p t' fz,w.heap[g]?=some (.cells #[.iface t p] t' fz):=by
 obtain⟨t,p,_,h2,h3⟩:=h.err g hg;unfold mI at h3
 split at h3
 ·rename_i cs t' fz hb;refine⟨t,p,t',fz,?_⟩;rw[hb];have hs:cs.size=1:=by simpa using h3
  have:cs=#[.iface t p]:=by
   refine Array.ext (by simpa using hs) fun i h1 h4=>?_
   obtain rfl:i=0:=by omega
   simp only[World.cell?,hb,Option.isSome_none,aY,if_false]at h2;rw[aK h1]at h2;simpa using h2
  rw[this]
 ·cases h3
theorem gB.block {pub:cI}{w:World}(h:gB pub w) {g:Nat}(hg:0 < (glob g).length):∃t fz,w.heap[g]?=some (.cells (glob g).toArray t fz):=by
 have h0:=(h.at_ g 0 _ (aB hg)).2.2;unfold mI at h0
 split at h0
 ·rename_i cs t fz hb;refine⟨t,fz,?_⟩;rw[hb];have hs:cs.size=(glob g).length:=by simpa using h0
  have:cs=(glob g).toArray:=by
   refine Array.ext (by simpa using hs) fun i h1 h2=>?_
   have hc:=(h.at_ g i _ (aB (by simpa using h2))).2.1;simp only[World.cell?,hb,Option.isSome_none,aY,if_false]at hc;rw[aK h1]at hc;simpa using hc
  rw[this]
 ·cases h0
structure kW (pub:cI) (w:World) (r:cF) (H:List cC):Prop where
 ent:∀k e,H[k]?=some e→dR pub w r (r k) e
 none_:∀k,H.length≤k→r k=none
 disj:∀i j x y,i≠j→r i=some x→r j=some y→∀b∈bY x,b∉bY y
 fresh:∀b,w.heap.size≤b→pub b=0
 there:∀b i,i < pub b→∃u,w.cell? ⟨b,i,none⟩=some u
 glob:gB pub w
theorem kW.foot_lt {pub:cI}{w:World}{r:cF}{H:List cC}(h:kW pub w r H) {k:Nat}{x:Value}(hx:r k=some x):∀b∈bY x,b < w.heap.size:=by
 have hk:k < H.length:=by
  rcases aL k H.length with h1|h1
  ·exact h1
  ·rw[h.none_ k h1]at hx;cases hx
 exact(h.ent k _ (aB hk)).foot_lt x hx
def eN (r:cF) (k:Nat) (x:Value):cF:=fun n=>if n=k then some x else r n
theorem bW (r:cF) (k:Nat) (x:Value):eN r k x k=some x:=by simp[eN]
theorem cG (r:cF) {k n:Nat}(x:Value) (h:n≠k):eN r k x n=r n:=by simp[eN,h]
theorem kW.draws {pub:cI}{w:World}{r:cF}{H:List cC}(h:kW pub w r H):kW pub w.drew r H:=
 ⟨fun k e he=>(h.ent k e he).frm (S:=fun _=>False) (Fr.refl _ _ _).draws (fun _ _ _ _ h=>h) (fun _ _ h=>h),h.none_,h.disj,h.fresh,h.there,⟨h.glob.at_,h.glob.err⟩⟩
theorem kW.frm {S:Nat→Prop}{pub pub':cI}{w w':World}{r:cF}{H:List cC}(h:kW pub w r H) (hf:Fr S pub w pub' w') (hd:∀k x,r k=some x→∀b∈bY x,¬S b)
  (h1:∀b,w'.heap.size≤b→pub' b=0) (h2:∀b i,i < pub' b→∃u,w'.cell? ⟨b,i,none⟩=some u):kW pub' w' r H:=
 ⟨fun k e he=>(h.ent k e he).frm hf (hd k) (fun _ _ h=>h),h.none_,h.disj,h1,h2,h.glob.ext hf.ext⟩
theorem kW.dead_none {pub:cI}{w:World}{r:cF}{H:List cC}(h:kW pub w r H) {k:Nat}(hk:H[k]?=some .dead):r k=none:=by
 have:=h.ent k _ hk;generalize r k=x at this;cases this;rfl
theorem jG {r:cF}{k:Nat}{x:Value}(h:r k=none):∀n y,r n=some y→eN r k x n=some y:=fun n y hy=>by
 rw[cG]
 ·exact hy
 ·rintro rfl;rw[h]at hy;cases hy
theorem kW.fill {S:Nat→Prop}{pub pub':cI}{w w':World}{r:cF}{H:List cC}{x:Value}{e:cC}{q:Nat}(h:kW pub w r H) (hq:H[q]?=some .dead) (hf:Fr S pub w pub' w') (hd:∀k x,r k=some x→∀b∈bY x,¬S b)
  (h1:∀b,w'.heap.size≤b→pub' b=0) (h2:∀b i,i < pub' b→∃u,w'.cell? ⟨b,i,none⟩=some u)
  (hx:∀k y,r k=some y→∀b∈bY y,b∉bY x) (he:dR pub' w' (eN r q x) (some x) e):kW pub' w' (eN r q x) (H.set q e):=by
 have hr:=jG (x:=x) (h.dead_none hq);have hql:=(aA.1 hq).1;refine⟨fun k e' he'=>?_,fun k hk=>?_,fun i j a b hij ha hb=>?_,h1,h2,h.glob.ext hf.ext⟩
 ·by_cases hk:q=k
  ·subst hk;rw[aP hql]at he';cases he';rw[bW];exact he
  ·rw[aT hk]at he';rw[cG _ _ (Ne.symm hk)];exact(h.ent k e' he').frm hf (hd k) hr
 ·rw[aZ]at hk;rw[cG _ _ (by omega)];exact h.none_ k hk
 ·by_cases hi:i=q
  ·subst hi;rw[bW]at ha;cases ha;rw[cG _ _ (Ne.symm hij)]at hb;exact fun z hz hz'=>hx j b hb z hz' hz
  ·rw[cG _ _ hi]at ha;by_cases hj:j=q
   ·subst hj;rw[bW]at hb;cases hb;exact hx i a ha
   ·rw[cG _ _ hj]at hb;exact h.disj i j a b hij ha hb
theorem kW.room {pub:cI}{w:World}{r:cF}{H:List cC}(h:kW pub w r H) (n:Nat):kW pub w r (H++List.replicate n .dead):=by
 refine⟨fun k e he=>?_,fun k hk=>h.none_ k (by simp at hk;omega),h.disj,h.fresh,h.there,⟨h.glob.at_,h.glob.err⟩⟩;by_cases hk:k < H.length
 ·rw[List.getElem?_append_left hk]at he;exact h.ent k e he
 ·rw[List.getElem?_append_right (by omega)]at he;have:=(aA.1 he)
  obtain⟨hlt,hv⟩:=this;rw[List.getElem_replicate]at hv;subst hv;rw[h.none_ k (by omega)];exact .dead
def cC.kill (k:Nat) (y:AV):cC→cC
 |.blk t cs=>.blk t (AV.killL k cs y)
 |.row t sz xs=>.row t sz xs
 |.map t es=>.map t es
 |.dead=>.dead
 |.tip t sz xs=>.tip t sz xs
 |.hrow t sz n cs=>.hrow t sz n (AV.killL k cs y)
 |.pool t es outs=>.pool t es (outs.map fun p=>(p.1,AV.kill k p.2 y))
 |.iter x since seen=>.iter (x.kill k y) since seen
theorem bO.kill {pub:cI}{w:World}{r r':cF}{l:List AV}{us:List Value}{n:Nat}{y:AV}(h:bO pub w r l us) (hk:∀m,m≠n→r' m=r m) (hy:∀z,r n=some z→bS pub w r' y z) :
  bO pub w r' (AV.killL n l y) us:=
 ⟨by rw[AV.killL_map,aJ];exact h.len,fun i z u hz hu=>by
  obtain⟨x,hx,rfl⟩:=AV.killL_get hz;exact(h.at_ i x u hx hu).kill hk hy⟩
theorem kW.set {S:Nat→Prop}{pub pub':cI}{w w':World}{r:cF}{H:List cC}{k:Nat}{x:Value}{e:cC}(h:kW pub w r H) (hx:r k=some x) (hf:Fr S pub w pub' w')
  (hS:∀b,S b→b∈bY x) (h1:∀b,w'.heap.size≤b→pub' b=0) (h2:∀b i,i < pub' b→∃u,w'.cell? ⟨b,i,none⟩=some u) (he:dR pub' w' r (some x) e):kW pub' w' r (H.set k e):=by
 refine⟨fun j e' he'=>?_,fun j hj=>h.none_ j (by simpa using hj),h.disj,h1,h2,h.glob.ext hf.ext⟩;by_cases hjk:k=j
 ·subst hjk;have hlt:=(aA.1 he').1;rw[aZ]at hlt;rw[aP hlt]at he';cases he';rw[hx];exact he
 ·rw[aT hjk]at he';exact(h.ent j e' he').frm hf (fun y hy b hb hSb=>h.disj k j x y hjk hx hy b (hS b hSb) hb) (fun _ _ h=>h)
theorem dR.kill {S:Nat→Prop}{pub pub':cI}{w w':World}{r r':cF}{h:Option Value}{e:cC}{k:Nat}{y:AV}(he:dR pub w r h e) (hf:Fr S pub w pub' w')
  (hd:∀x,h=some x→∀b∈bY x,¬S b) (hk:∀m,m≠k→r' m=r m) (hy:∀z,r k=some z→bS pub' w' r' y z):dR pub' w' r' h (e.kill k y):=by
 have h0:=he.frm (r':=r) hf hd (fun _ _ h=>h);cases h0 with
 |dead=>exact .dead
 |blk hb hc hp=>exact .blk hb (hc.kill hk hy) hp
 |row ho hc hs hp=>exact .row ho hc hs hp
 |tip ho hc hs hp=>exact .tip ho hc hs hp
 |map hb hl hk hv hp hbo=>exact .map hb hl hk hv hp hbo
 |hrow ho hc hp=>exact .hrow ho (hc.kill hk hy) hp
 |iter hb hx hp=>exact .iter hb (hx.kill hk hy) hp
 |@pool _ t es outs b ms inner hb hl hn hborn hk1 hout hin hie hnd hp=>
  refine .pool hb hl hn hborn hk1 (fun i x hx=>?_) (fun i e vs m ho=>hin i e vs m fun x hx=>ho _ (aW.2 ⟨(i,x),hx,rfl⟩)) (fun i e vs j d ho=>hie i e vs j d fun x hx=>ho _ (aW.2 ⟨(i,x),hx,rfl⟩)) hnd hp;obtain⟨⟨i',x'⟩,hx',e⟩:=aW.1 hx;cases e;exact⟨(hout _ _ hx').1,fun m hm=>((hout _ _ hx').2 m hm).kill hk hy⟩
theorem kW.turn {S:Nat→Prop}{pub pub':cI}{w w':World}{r:cF}{H:List cC}{k:Nat}{x x':Value}{e:cC}{y:AV}(h:kW pub w r H) (hx:r k=some x) (hf:Fr S pub w pub' w')
  (hS:∀b,S b→b∈bY x) (h1:∀b,w'.heap.size≤b→pub' b=0) (h2:∀b i,i < pub' b→∃u,w'.cell? ⟨b,i,none⟩=some u)
  (hx':∀b∈bY x',b∈bY x∨w.heap.size≤b) (hy:bS pub' w' (eN r k x') y x) (he:dR pub' w' (eN r k x') (some x') e) :
  kW pub' w' (eN r k x') ((H.map (cC.kill k y)).set k e):=by
 have hlt:∀j z,r j=some z→∀b∈bY z,b < w.heap.size:=fun j z hz=>h.foot_lt hz
 have far:∀j z,j≠k→r j=some z→∀b∈bY z,b∉bY x':=fun j z hj hz b hb hb'=>by
  rcases hx' b hb' with h3|h3
  ·exact h.disj j k z x hj hz hx b hb h3
  ·have:=hlt j z hz b hb;omega
 refine⟨fun j e' he'=>?_,fun j hj=>?_,fun i j a b hij ha hb=>?_,h1,h2,h.glob.ext hf.ext⟩
 ·by_cases hjk:k=j
  ·subst hjk;have hl:=(aA.1 he').1;rw[aZ]at hl;rw[aP hl]at he';cases he';rw[bW];exact he
  ·rw[aT hjk,aD]at he';cases hj:H[j]? with
   |none=>rw[hj]at he';cases he'
   |some e0=>
    rw[hj]at he';cases he';rw[cG _ _ (Ne.symm hjk)];exact(h.ent j e0 hj).kill hf (fun z hz b hb hSb=>h.disj k j x z hjk hx hz b (hS b hSb) hb) (fun m hm=>cG _ _ hm) (fun z hz=>by rw[hx]at hz;cases hz;exact hy)
 ·simp at hj;have:j≠k:=by
   rintro rfl;rw[h.none_ _ hj]at hx;cases hx
  rw[cG _ _ this];exact h.none_ j hj
 ·by_cases hi:i=k
  ·subst hi;rw[bW]at ha;cases ha;rw[cG _ _ (Ne.symm hij)]at hb;exact fun z hz hz'=>far j b (Ne.symm hij) hb z hz' hz
  ·rw[cG _ _ hi]at ha;by_cases hj:j=k
   ·subst hj;rw[bW]at hb;cases hb;exact far i a hi ha
   ·rw[cG _ _ hj]at hb;exact h.disj i j a b hij ha hb
structure St where
 T:List (Nat×AV)
 H:List cC
def dN:List (Nat×AV)→Nat→AV
 |[],_=>.any
 |(m,x) :: l,n=>if m=n then x else dN l n
def MY (T:List (Nat×AV)) (d:Nat) (x:AV):List (Nat×AV):=(d,x) :: T
theorem vQ (d:Nat) (x:AV) (T:List (Nat×AV)) (n:Nat):dN (MY T d x) n=if d=n then x else dN T n:=rfl
def Lj (d:Nat) (x:AV):List (Nat×AV)→List (Nat×AV)
 |[]=>[(d,x)]
 |(m,y) :: l=>if d < m then (d,x) :: (m,y) :: l else if d=m then (d,x) :: l else (m,y) :: Lj d x l
theorem Ce (d:Nat) (x:AV):∀(T:List (Nat×AV)) (n:Nat),dN (Lj d x T) n=if d=n then x else dN T n
 |[],n=>by simp[Lj,dN]
 |(m,y) :: T,n=>by
  have ih:=Ce d x T n;unfold Lj
  split
  ·rfl
  ·split
   ·rename_i h;subst h;simp only[dN];split<;>rfl
   ·rename_i h;simp only[dN,ih];split<;>split<;>first|rfl|(exfalso;omega)
def Fv:List (Nat×AV)→List (Nat×AV)
 |[]=>[]
 |(d,x) :: l=>Lj d x (Fv l)
theorem wR:∀(T:List (Nat×AV)) (n:Nat),dN (Fv T) n=dN T n
 |[],n=>rfl
 |(d,x) :: l,n=>by
  unfold Fv;rw[Ce,wR l n];rfl
def St.put (st:St) (d:Option Nat) (x:AV):St:=
 match d with
 |some d=>⟨MY st.T d x,st.H⟩
 |none=>st
def kU (pub:cI) (w:World) (r:cF) (T:List (Nat×AV)) (a:Act):Prop:=∀n,bS pub w r (dN T n) (a.tmps.getD n undef)
theorem kU.put {pub:cI}{w:World}{r:cF}{T:List (Nat×AV)}{a:Act}{d:Nat}{x:AV}{u:Value}(h:kU pub w r T a) (hd:d < a.tmps.size) (hx:bS pub w r x u) :
  kU pub w r (MY T d x) (a.put (some d) u):=by
 intro n;rw[vQ];by_cases e:d=n
 ·subst e;rw[aF rfl];simpa [Act.put,Array.getD,hd]using hx
 ·rw[aE e];have:(a.put (some d) u).tmps.getD n undef=a.tmps.getD n undef:=by
   simp only[Act.put,Array.getD_eq_getD_getElem?,Array.getElem?_setIfInBounds_ne e]
  rw[this];exact h n
theorem kU.ext {pub pub':cI}{w w':World}{r:cF}{T:List (Nat×AV)}{a:Act}(h:kU pub w r T a) (he:lV pub w pub' w'):kU pub' w' r T a:=fun n=>(h n).ext he
theorem kU.mono {pub:cI}{w:World}{r r':cF}{T:List (Nat×AV)}{a:Act}(h:kU pub w r T a) (hr:∀n y,r n=some y→r' n=some y):kU pub w r' T a:=fun n=>(h n).mono hr
def Ws (k:Nat) (y:AV) (T:List (Nat×AV)):List (Nat×AV):=T.map fun p=>(p.1,AV.kill k p.2 y)
theorem qB (k:Nat) (y:AV):∀(T:List (Nat×AV)) (n:Nat),dN (Ws k y T) n=AV.kill k (dN T n) y
 |[],n=>by simp[Ws,dN,AV.kill]
 |(m,x) :: T,n=>by
  have ih:=qB k y T n;unfold Ws at ih⊢;simp only[List.map_cons,dN]
  split
  ·rfl
  ·exact ih
theorem kU.kill {pub:cI}{w:World}{r r':cF}{T:List (Nat×AV)}{a:Act}{k:Nat}{y:AV}(h:kU pub w r T a) (hk:∀m,m≠k→r' m=r m) (hy:∀z,r k=some z→bS pub w r' y z) :
  kU pub w r' (Ws k y T) a:=fun n=>by
 rw[qB];exact(h n).kill hk hy
def agB:Value→Bool
 |.slice ..=>true
 |.tuple _=>true
 |_=>false
structure kN where
 S:Nat→Prop
 pub:cI
 w:World
 n:Nat
 m:Nat
 r:cF
structure bM (C:kN) (st:St) (a:Act) (w:World) (r:cF) (pub:cI):Prop where
 mod:kW pub w r st.H
 own:∀k x,r k=some x→∀b∈bY x,C.S b∨C.w.heap.size≤b
 fr:Fr C.S C.pub C.w pub w
 slots:kU pub w r st.T a
 defers:a.defers=[]
 size:a.tmps.size=C.n
 stab:∀k y,C.r k=some y→agB y=false→r k=some y
 low:(∀k,C.m≤k→C.r k=none)∧C.m≤st.H.length
section
variable {C:kN}{st:St}{a:Act}{w:World}{r:cF}{pub:cI}
theorem bM.put (h:bM C st a w r pub) {d:Option Nat}{x:AV}{u:Value}(hd:∀n,d=some n→n < C.n) (hx:bS pub w r x u):bM C (st.put d x) (a.put d u) w r pub:=by
 cases d with
 |none=>exact h
 |some d=>exact⟨h.mod,h.own,h.fr,h.slots.put (by rw[h.size];exact hd d rfl) hx,h.defers,by simp[Act.put,h.size],h.stab,h.low⟩
theorem bM.draws (h:bM C st a w r pub):bM C st a w.drew r pub:=⟨h.mod.draws,h.own,h.fr.draws,h.slots.ext ⟨fun _=>aN _,fun _ _ _ _ h=>h,fun _ _ _ h=>h⟩,h.defers,h.size,h.stab,h.low⟩
end
section
variable {C:kN}{st:St}{a:Act}{w:World}{r:cF}{pub:cI}
theorem Bu (h:∀b i,i < pub b→∃u,w.cell? ⟨b,i,none⟩=some u) (o:Obj):∀b i,i < pub b→∃u,(w.alloc o).cell? ⟨b,i,none⟩=some u:=fun b i hi=>by
 obtain⟨u,hu⟩:=h b i hi;exact⟨u,by rw[World.cell?_of_block (w:=w) (a:=⟨b,i,none⟩) (Below.heap_alloc w o b (World.block_lt_of_cell? w _ hu))];exact hu⟩
theorem Fr.alloc_ (S:Nat→Prop) (pub:cI) (w:World) (o:Obj):Fr S pub w pub (w.alloc o):=
 ⟨rfl,rfl,rfl,by simp,fun b hb _=>⟨Below.heap_alloc w o b hb,rfl⟩,fun _=>aN _,fun b i u _ hu=>by
  rw[World.cell?_of_block (w:=w) (a:=⟨b,i,none⟩) (Below.heap_alloc w o b (World.block_lt_of_cell? w _ hu))];exact hu,fun b _ _ hn=>jB (Below.heap_alloc w o b (lX hn)) hn⟩
theorem Cn (h:∀b,w.heap.size≤b→pub b=0) (o:Obj):∀b,(w.alloc o).heap.size≤b→pub b=0:=fun b hb=>h b (by simp at hb;omega)
theorem bM.room (h:bM C st a w r pub) (n:Nat):bM C ⟨st.T,st.H++List.replicate n .dead⟩ a w r pub:=⟨h.mod.room n,h.own,h.fr,h.slots,h.defers,h.size,h.stab,⟨h.low.1,by have:=h.low.2;simp;omega⟩⟩
theorem bM.alloc (h:bM C st a w r pub) {q:Nat}(hq:st.H[q]?=some .dead) (o:Obj) (x:Value) (e:cC) (hx:∀b∈bY x,b=w.heap.size)
  (he:dR pub (w.alloc o) (eN r q x) (some x) e):bM C ⟨st.T,st.H.set q e⟩ a (w.alloc o) (eN r q x) pub:=by
 have hr:=jG (x:=x) (h.mod.dead_none hq);refine⟨h.mod.fill (S:=fun _=>False) hq (Fr.alloc_ _ _ _ o) (fun _ _ _ _ _ h=>h) (Cn h.mod.fresh o) (Bu h.mod.there o) (fun k y hy b hb hb'=>?_) he,fun k y hy b hb=>?_,?_,?_,h.defers,h.size,fun k y hy hs=>hr _ _ (h.stab k y hy hs),⟨h.low.1,by simpa using h.low.2⟩⟩
 ·have:=h.mod.foot_lt hy b hb;have:=hx b hb';omega
 ·by_cases hk:k=q
  ·subst hk;rw[bW]at hy;cases hy;have:=hx b hb;have:=h.fr.size;right;omega
  ·rw[cG _ _ hk]at hy;exact h.own k y hy b hb
 ·exact h.fr.trans (T:=fun _=>False) (Fr.alloc_ _ _ _ o) (fun _ h=>h.elim)
 ·exact(h.slots.mono hr).ext (Fr.alloc_ (fun _=>False) pub w o).ext
theorem bM.box (h:bM C st a w r pub) {q:Nat}(hq:st.H[q]?=some .dead) (t:TypeId) (cs:List AV) (arr:Array Value) (hc:bO pub w r cs arr.toList) :
  bM C ⟨st.T,st.H.set q (.blk t cs)⟩ a (w.alloc (.cells arr t)) (eN r q (.pointer (some ⟨w.heap.size,0,none⟩))) pub:=by
 refine h.alloc hq _ _ _ (by simp[bY]) (.blk (gF.new w t arr) ⟨hc.len,fun i x u hx hu=>((hc.at_ i x u hx hu).ext (Fr.alloc_ (fun _=>False) pub w _).ext).mono (jG (h.mod.dead_none hq))⟩ (h.mod.fresh _ (aN _)))
theorem bM.newrow (h:bM C st a w r pub) {q:Nat}(hq:st.H[q]?=some .dead) (t sz n c:Nat) (xs:List AV) (arr:Array Value) (hn:xs.length=n) (hnc:n≤c) (hcm:c≤maxLen) (has:arr.size=c * sz) (hc:bO pub w cM (xs.flatMap AV.cells) (arr.toList.take (n * sz)))
  (hs:∀x∈xs,x.cells.length=sz∧x.cells.all AV.one=true) :
  bM C ⟨st.T,st.H.set q (.row t sz xs)⟩ a (w.alloc (.cells arr t)) (eN r q (.slice (some ⟨w.heap.size,0,none⟩) n c)) pub:=by
 subst hn;exact h.alloc hq _ _ _ (by simp[bY]) (.row (fP.of_blk (gF.new w t arr) hnc hcm has rfl) (hc.ext (Fr.alloc_ (fun _=>False) pub w _).ext) hs (fun b hb=>by simp at hb;subst hb;exact h.mod.fresh _ (aN _)))
theorem bM.newmap (h:bM C st a w r pub) {q:Nat}(hq:st.H[q]?=some .dead) (t:TypeId):bM C ⟨st.T,st.H.set q (.map t [])⟩ a (w.alloc (.map #[] 0)) (eN r q (.map (some w.heap.size))) pub:=
 h.alloc hq _ _ _ (by simp[bY]) (.map (heap_alloc_new w _) rfl .nil .nil (h.mod.fresh _ (aN _)) fun _=>⟨rfl,fun i m hm=>by simp at hm⟩)
theorem Fr.setRow_ {g:Nat}{t:TypeId}{arr arr':Array Value}(hb:gF w g t arr) (pub':cI) (hp:∀b,b≠g→pub' b=pub b) (hg:pub g≤pub' g) (hc:∀i,i < pub g→arr'[i]?=arr[i]?) (hz:0 < pub g→arr'.size=arr.size):Fr (fun b=>b=g) pub w pub' (w.setRow g arr'):=by
 have heap:∀b,b≠g→(w.setRow g arr').heap[b]?=w.heap[b]?:=fun b hbg=>setRow_other w g b arr' hbg
 refine⟨rfl,rfl,rfl,by simp[World.setRow],fun b _ hn=>⟨heap b hn,hp b hn⟩,fun b=>?_,fun b i u hi hu=>?_,fun b n hpb hn=>?_⟩
 ·by_cases e:b=g
  ·subst e;exact hg
  ·rw[hp b e];exact aN _
 ·by_cases e:b=g
  ·subst e;have h1:(w.setRow b arr').heap[b]?=some (.cells arr' t (0,0)):=setRow_heap w b arr arr' t _ hb;have h2:=(gF.all hb) i;rw[hu]at h2;simp only[World.cell?,h1,Option.isSome_none,aY,if_false];rw[hc i hi,←h2]
  ·rw[World.cell?_of_block (w:=w) (a:=⟨b,i,none⟩) (heap b e)];exact hu
 ·by_cases e:b=g
  ·subst e;unfold mI at hn⊢;rw[setRow_heap w b arr arr' t _ hb];rw[hb]at hn;dsimp only at hn⊢;rw[hz hpb];exact hn
  ·exact jB (heap b e) hn
theorem bM.turn (h:bM C st a w r pub) {k g:Nat}{x:Value}{e:cC}{t:TypeId}{arr arr':Array Value}(hx:r k=some x) (hg:g∈bY x) (hb:gF w g t arr) (pub':cI) (hp:∀b,b≠g→pub' b=pub b)
  (hle:pub g≤pub' g) (hc:∀i,i < pub g→arr'[i]?=arr[i]?) (hz:0 < pub g→arr'.size=arr.size) (hlt:∀i,i < pub' g→i < arr'.size)
  (he:Fr (fun b=>b=g) pub w pub' (w.setRow g arr')→dR pub' (w.setRow g arr') r (some x) e):bM C ⟨st.T,st.H.set k e⟩ a (w.setRow g arr') r pub':=by
 have hf:=Fr.setRow_ hb pub' hp hle hc hz;refine⟨h.mod.set hx hf (fun b hb=>by subst hb;exact hg) (fun b hb'=>?_) (fun b i hi=>?_) (he hf),h.own,h.fr.trans hf (fun b hb'=>?_),h.slots.ext hf.ext,h.defers,h.size,h.stab,⟨h.low.1,by simpa using h.low.2⟩⟩
 ·rw[setRow_size]at hb';by_cases e:b=g
  ·subst e;have:=hb.lt;omega
  ·rw[hp b e];exact h.mod.fresh b hb'
 ·by_cases e:b=g
  ·subst e;exact⟨arr'[i]'(hlt i hi),by rw[cell_setRow_same w b i arr arr' t _ hb];exact aK _⟩
  ·rw[hp b e]at hi;rw[cell_setRow_other w g arr' _ (by exact e)];exact h.mod.there b i hi
 ·subst hb';exact h.own k x hx _ hg
theorem bO.seg {pub:cI}{w:World}{r:cF}{l m:List AV}{us vs:List Value}(h:bO pub w r l us) (k:bO pub w r m vs) (j:Nat) :
  bO pub w r (l.take j++m++l.drop (j+m.length)) (us.take j++vs++us.drop (j+vs.length)):=by
 have:=((h.take j).app k).app (h.drop (j+m.length));rw[k.len] ;exact this
theorem bM.ent_blk (h:bM C st a w r pub) {k:Nat}{t:TypeId}{cs:List AV}(hk:st.H[k]?=some (.blk t cs)):∃b arr,r k=some (.pointer (some ⟨b,0,none⟩))∧gF w b t arr∧bO pub w r cs arr.toList∧pub b=0:=by
 have:=h.mod.ent k _ hk;generalize hr:r k=x at this;cases this with
 |blk hb hc hp=>exact⟨_,_,rfl,hb,hc,hp⟩
theorem bM.ent_row (h:bM C st a w r pub) {k:Nat}{t:TypeId}{sz:Nat}{xs:List AV}(hk:st.H[k]?=some (.row t sz xs)):∃A c us,r k=some (.slice A xs.length c)∧fP w t sz A xs.length c us∧bO pub w cM (xs.flatMap AV.cells) us∧
  (∀x∈xs,x.cells.length=sz∧x.cells.all AV.one=true)∧∀b∈gC A,pub b=0:=by
 have:=h.mod.ent k _ hk;generalize hr:r k=x at this;cases this with
 |row ho hc hs hp=>exact⟨_,_,_,rfl,ho,hc,hs,hp⟩
theorem bM.ent_tip (h:bM C st a w r pub) {k:Nat}{t:TypeId}{sz:Nat}{xs:List AV}(hk:st.H[k]?=some (.tip t sz xs)):∃A d c x us,r k=some (.slice A xs.length c)∧kK w t sz x A d xs.length c us∧bO pub w cM (xs.flatMap AV.cells) us∧
  (∀x∈xs,x.cells.length=sz∧x.cells.all AV.one=true)∧∀b∈gC A,d+xs.length * sz≤pub b∧(c≠0→pub b=d+xs.length * sz):=by
 have:=h.mod.ent k _ hk;generalize hr:r k=x at this;cases this with
 |tip ho hc hs hp=>exact⟨_,_,_,_,_,rfl,ho,hc,hs,hp⟩
theorem bM.store (h:bM C st a w r pub) {k b:Nat}{t:TypeId}{cs m:List AV}{arr:Array Value}{vs:List Value}(hx:r k=some (.pointer (some ⟨b,0,none⟩))) (hb:gF w b t arr) (hc:bO pub w r cs arr.toList) (hp:pub b=0)
  (hm:bO pub w r m vs) (j:Nat):bM C ⟨st.T,st.H.set k (.blk t (cs.take j++m++cs.drop (j+m.length)))⟩ a (w.setRow b (arr.toList.take j++vs++arr.toList.drop (j+vs.length)).toArray) r pub:=
 h.turn hx (by simp[bY]) hb pub (fun _ _=>rfl) (aN _) (fun i hi=>by omega) (fun h0=>by omega) (fun i hi=>by omega) fun hf=>
  .blk (setRow_heap w b arr _ t _ hb) ((hc.seg hm j).ext hf.ext) hp
theorem Fx {α:Type}(pre x post m:List α) (j:Nat) (hj:j+m.length≤x.length) :
  pre++(x.take j++m++x.drop (j+m.length))++post=(pre++x++post).take (pre.length+j)++m++(pre++x++post).drop (pre.length+j+m.length):=by
 have e1:(pre++x++post).take (pre.length+j)=pre++x.take j:=by
  rw[bE,List.take_length_add_append,List.take_append_of_le_length (by omega)]
 have e2:(pre++x++post).drop (pre.length+j+m.length)=x.drop (j+m.length)++post:=by
  rw[bE,Nat.add_assoc,List.drop_length_add_append,List.drop_append_of_le_length (by omega)]
 rw[e1,e2];simp[bE]
theorem J8 {α:Type}(L vs:List α) (p n:Nat) (h:p+vs.length≤n) (hn:n≤L.length) :
  (L.take p++vs++L.drop (p+vs.length)).take n=(L.take n).take p++vs++(L.take n).drop (p+vs.length):=by
 rw[List.take_append,bB (l:=L.take p++vs) (by simp;omega),List.take_take,Nat.min_eq_left (by omega),List.drop_take];congr 2;simp;omega
theorem eA {sz:Nat}:∀(l:List AV),(∀z∈l,z.cells.length=sz)→(l.flatMap AV.cells).length=l.length * sz
 |[],_=>by simp
 |z :: l,h=>by simp[eA l (fun q hq=>h q (by simp[hq])),h z (by simp),Nat.succ_mul,Nat.add_comm]
theorem bM.storeRow (h:bM C st a w r pub) {k:Nat}{t:TypeId}{sz:Nat}{xs:List AV}(hk:st.H[k]?=some (.row t sz xs)) {i j:Nat}{x:AV}(hx:xs[i]?=some x) {m:List AV}{vs:List Value}(hm:bO pub w cM m vs)
  (hj:j+m.length≤sz) (h1:m.all AV.one=true) (y:AV) (hy:y.cells=x.cells.take j++m++x.cells.drop (j+m.length)) :
  ∃g n c arr,r k=some (.slice (some ⟨g,0,none⟩) n c)∧gF w g t arr∧i * sz+j+vs.length≤arr.size∧
   bM C ⟨st.T,st.H.set k (.row t sz (xs.set i y))⟩ a (w.setRow g (arr.toList.take (i * sz+j)++vs++arr.toList.drop (i * sz+j+vs.length)).toArray) r pub:=by
 obtain⟨A,c,us,hr,ho,hc,hs,hp⟩:=h.ent_row hk;have hi:i < xs.length:=(aA.1 hx).1;have hxm:x∈xs:=aC hx;have hxl:=(hs x hxm).1;rcases ho.cases_ with ⟨rfl,h0,_⟩|⟨g,cur,rfl,hb,r1,r2,r3,r4⟩
 ·omega
 ·have hlen:i * sz+sz≤xs.length * sz:=by
   have:=Nat.mul_le_mul_right sz (show i+1≤xs.length by omega);rw[Nat.succ_mul]at this;exact this
  have hcap:xs.length * sz≤c * sz:=Nat.mul_le_mul_right sz r1;have hvl:=hm.len;have hcells:∀z:AV,z∈xs.set i y→z.cells.length=sz∧z.cells.all AV.one=true:=fun z hz=>by
   rcases List.mem_or_eq_of_mem_set hz with hz|rfl
   ·exact hs z hz
   ·rw[hy];have hxo:=(hs x hxm).2;simp only[aM,aR,List.length_drop,List.all_append,aO,h1];refine⟨by omega,⟨?_,trivial⟩,?_⟩
    ·rw[aS]at hxo⊢;exact fun q hq=>hxo q (List.mem_of_mem_take hq)
    ·rw[aS]at hxo⊢;exact fun q hq=>hxo q (List.mem_of_mem_drop hq)
  have hflat:(xs.set i y).flatMap AV.cells=(xs.flatMap AV.cells).take (i * sz+j)++m++(xs.flatMap AV.cells).drop (i * sz+j+m.length):=by
   have e1:xs=xs.take i++[x]++xs.drop (i+1):=by
    have:=List.getElem_of_getElem? hx;obtain⟨_,rfl⟩:=this;simp
   have hpre:(((xs.take i).flatMap AV.cells)).length=i * sz:=by
    rw[eA _ (fun z hz=>(hs z (List.mem_of_mem_take hz)).1),aR];congr 1;omega
   have e2:xs.flatMap AV.cells=(xs.take i).flatMap AV.cells++x.cells++(xs.drop (i+1)).flatMap AV.cells:=by
    have:=congrArg (List.flatMap AV.cells) e1;rw[this];simp only[List.flatMap_append,List.flatMap_cons,List.flatMap_nil,List.append_nil]
   rw[List.set_eq_take_append_cons_drop,aF hi,List.flatMap_append,List.flatMap_cons,hy,←bE,Fx _ _ _ _ _ (by omega),hpre,←e2]
  refine⟨g,_,c,cur,hr,hb,by omega,h.turn hr (by simp[bY]) hb pub (fun _ _=>rfl) (aN _) (fun q hq=>?_) (fun q=>?_) (fun q hq=>?_) fun hf=>?_⟩
  ·have:=hp g (by simp);omega
  ·have:=hp g (by simp);omega
  ·have:=hp g (by simp);omega
  ·have hl:(xs.set i y).length=xs.length:=aZ;have:=dR.row (pub:=pub) (w:=w.setRow g (cur.toList.take (i * sz+j)++vs++cur.toList.drop (i * sz+j+vs.length)).toArray) (r:=r) (t:=t) (sz:=sz) (xs:=xs.set i y) (A:=some ⟨g,0,none⟩) (c:=c)
    (us:=us.take (i * sz+j)++vs++us.drop (i * sz+j+vs.length)) ?_ ?_ hcells hp
   ·rw[hl]at this;exact this
   ·rw[hl];refine fP.of_blk (setRow_heap w g cur _ t _ hb) r1 r2 ?_ ?_
    ·simp;omega
    ·rw[←r4];simp only[];have:=J8 cur.toList vs (i * sz+j) (xs.length * sz) (by omega) (by have:=bA (xs:=cur);omega);exact this
   ·rw[hflat];exact((hc.seg hm _).ext hf.ext)
end
structure tP (w:World) (sz:Nat) (A:Option Addr) (m:Nat) (us:List Value):Prop where
 len:us.length=m * sz
 nil_:A=none→us=[]
 get:∀(j:Nat) (u:Value),us[j]?=some u→∃b o,A=some ⟨b,o,none⟩∧w.cell? ⟨b,o+j,none⟩=some u
theorem sL {sz:Nat}:∀(xs:List AV),(∀x∈xs,x.cells.length=sz)→∀(q:Nat) (u:AV),(xs.flatMap AV.cells)[q]?=some u→∃i x j,xs[i]?=some x∧x.cells[j]?=some u∧q=i * sz+j∧j < sz
 |[],_,q,u,h=>by simp at h
 |x :: xs,hs,q,u,h=>by
  rw[List.flatMap_cons]at h;have hx:=hs x (by simp);by_cases hq:q < x.cells.length
  ·rw[List.getElem?_append_left hq]at h;exact⟨0,x,q,rfl,h,by omega,by omega⟩
  ·rw[List.getElem?_append_right (by omega)]at h;obtain⟨i,y,j,h1,h2,h3,h4⟩:=sL xs (fun z hz=>hs z (by simp[hz])) _ _ h;exact⟨i+1,y,j,by simpa using h1,h2,by rw[Nat.succ_mul];omega,h4⟩
theorem oW {sz:Nat}(xs:List AV) (hs:∀x∈xs,x.cells.length=sz) {i j:Nat}{x u:AV}(hx:xs[i]?=some x) (hu:x.cells[j]?=some u):(xs.flatMap AV.cells)[i * sz+j]?=some u:=by
 obtain⟨hi,hxi⟩:=aA.1 hx;subst hxi;have e2:xs.flatMap AV.cells=(xs.take i).flatMap AV.cells++(xs[i].cells++(xs.drop (i+1)).flatMap AV.cells):=by
  have e1:xs=xs.take i++[xs[i]]++xs.drop (i+1):=by simp
  have:=congrArg (List.flatMap AV.cells) e1;rw[this];simp only[List.flatMap_append,List.flatMap_cons,List.flatMap_nil,List.append_nil,bE]
 have hpre:(((xs.take i).flatMap AV.cells)).length=i * sz:=by
  rw[eA _ (fun z hz=>hs z (List.mem_of_mem_take hz)),aR];congr 1;omega
 have hj:=(aA.1 hu).1;rw[e2,List.getElem?_append_right (by omega),hpre,show i * sz+j - i * sz=j by omega,List.getElem?_append_left hj];exact hu
theorem bS.sl_cells {pub:cI}{w:World}{r:cF}{sz:Nat}{xs:List AV}{v:Value}(h:bS pub w r (.sl sz xs) v):∃A c us,v=.slice A xs.length c∧xs.length≤c∧c≤maxLen∧(A=none→xs=[]∧c=0)∧(∀x∈xs,x.cells.length=sz∧x.cells.all AV.one=true)∧
  tP w sz A xs.length us∧bO pub w cM (xs.flatMap AV.cells) us∧(∀j b o,j < xs.length * sz→A=some ⟨b,o,none⟩→o+j < pub b):=by
 cases h with
 |@sl _ _ _ A c hc hm hn hs g hr hg=>
  have hlen:=eA xs (fun z hz=>(hs z hz).1);refine⟨A,c,(List.range (xs.length * sz)).map (fun q=>g (q / sz) (q % sz)),rfl,hc,hm,hn,hs,⟨by simp,fun hA=>by rw[(hn hA).1];simp,fun j u hu=>?_⟩,⟨by simp[hlen],fun q x u hx hu=>?_⟩,fun q b o hq hA=>?_⟩
  ·rw[aD]at hu;cases hj:(List.range (xs.length * sz))[j]? with
   |none=>rw[hj]at hu;cases hu
   |some q=>
    rw[hj]at hu;have hjl:=(aA.1 hj).1;rw[List.getElem?_range (by simpa using hjl)]at hj;cases hj;cases hu;have hq:j < (xs.flatMap AV.cells).length:=by rw[hlen];simpa using hjl
    obtain⟨i,y,j',h1,h2,h3,h4⟩:=sL xs (fun z hz=>(hs z hz).1) j _ (aB hq);obtain⟨b,o,hA,_,hcell⟩:=hg i y j' _ h1 h2;have hd:j / sz=i:=by rw[h3,Nat.mul_comm,Nat.mul_add_div (by omega),Nat.div_eq_of_lt h4];omega
    have hmd:j % sz=j':=by rw[h3,Nat.mul_comm,Nat.mul_add_mod,Nat.mod_eq_of_lt h4]
    refine⟨b,o,hA,?_⟩;dsimp only;rw[hd,hmd,h3,←Nat.add_assoc];exact hcell
  ·obtain⟨i,y,j',h1,h2,h3,h4⟩:=sL xs (fun z hz=>(hs z hz).1) q _ hx;have hql:q < xs.length * sz:=by rw[←hlen];exact(aA.1 hx).1
   rw[aD,List.getElem?_range hql]at hu;cases hu;have hd:q / sz=i:=by rw[h3,Nat.mul_comm,Nat.mul_add_div (by omega),Nat.div_eq_of_lt h4];omega
   have hmd:q % sz=j':=by rw[h3,Nat.mul_comm,Nat.mul_add_mod,Nat.mod_eq_of_lt h4]
   dsimp only;rw[hd,hmd];exact hr i y j' x h1 h2
  ·have hq':q < (xs.flatMap AV.cells).length:=by rw[hlen];exact hq
   obtain⟨i,y,j',h1,h2,h3,h4⟩:=sL xs (fun z hz=>(hs z hz).1) q _ (aB hq');obtain⟨b',o',hA',hp,_⟩:=hg i y j' _ h1 h2;rw[hA']at hA;simp only[bD,Addr.mk.injEq,and_true]at hA;obtain⟨rfl,rfl⟩:=hA;omega
theorem bS.of_cells {pub:cI}{w:World}{r:cF}{sz:Nat}{xs:List AV}{A:Option Addr}{c:Nat}{us:List Value}(h1:xs.length≤c) (h2:c≤maxLen) (h3:A=none→xs=[]∧c=0)
  (hs:∀x∈xs,x.cells.length=sz∧x.cells.all AV.one=true) (hc:tP w sz A xs.length us) (hv:bO pub w cM (xs.flatMap AV.cells) us) (hp:∀j b o,j < xs.length * sz→A=some ⟨b,o,none⟩→o+j < pub b) :
  bS pub w r (.sl sz xs) (.slice A xs.length c):=by
 refine .sl h1 h2 h3 hs (fun i j=>us.getD (i * sz+j) undef) (fun i x j u hx hu=>?_) (fun i x j u hx hu=>?_)
 ·obtain⟨z,hz,hvz⟩:=hv.get (oW xs (fun z hz=>(hs z hz).1) hx hu);rw[List.getD_eq_getElem?_getD,hz];exact hvz
 ·have hf:=oW xs (fun z hz=>(hs z hz).1) hx hu;obtain⟨z,hz,hvz⟩:=hv.get hf;obtain⟨b,o,hA,hcell⟩:=hc.get _ _ hz;refine⟨b,o,hA,?_,?_⟩
  ·have hl:=(aA.1 hf).1;rw[eA xs (fun z hz=>(hs z hz).1)]at hl;have:=hp _ b o hl hA;omega
  ·rw[List.getD_eq_getElem?_getD,hz,Nat.add_assoc];exact hcell
theorem fP.cells_ {w:World}{t sz n c:Nat}{A:Option Addr}{us:List Value}(h:fP w t sz A n c us):tP w sz A n us:=by
 refine⟨h.len,fun hA=>?_,fun j u hu=>h.rd.get j u hu⟩;rcases h.cases_ with ⟨_,_,_,h4⟩|⟨g,cur,h0,_⟩
 ·exact h4
 ·rw[hA]at h0;cases h0
theorem kK.cells_ {w:World}{t sz d n c:Nat}{x:Bool}{A:Option Addr}{us:List Value}(h:kK w t sz x A d n c us):tP w sz A n us:=by
 refine⟨h.len,fun hA=>?_,fun j u hu=>?_⟩
 ·rcases h with ⟨_,_,_,_,h4⟩|⟨g,cur,h0,_⟩
  ·exact h4
  ·rw[hA]at h0;cases h0
 ·rcases h with ⟨_,_,_,_,rfl⟩|⟨g,cur,rfl,hb,r1,r2,r3,rfl,_⟩
  ·simp at hu
  ·refine⟨g,d,rfl,hb.cell _ _ ?_⟩;rw[List.getElem?_take]at hu
   split at hu
   ·rw[List.getElem?_drop]at hu;simpa using hu
   ·cases hu
theorem Dv {pub:cI}{w:World}{r:cF}{t sz d c:Nat}{z:Bool}{xs:List AV}{A:Option Addr}{us:List Value}(ho:kK w t sz z A d xs.length c us) (hc:bO pub w cM (xs.flatMap AV.cells) us)
  (hs:∀x∈xs,x.cells.length=sz∧x.cells.all AV.one=true) (hp:∀b∈gC A,d+xs.length * sz≤pub b):bS pub w r (.sl sz xs) (.slice A xs.length c):=by
 refine bS.of_cells ho.caps.1 ho.caps.2.1 (fun hA=>?_) hs ho.cells_ hc (fun j b o hj hA=>?_)
 ·obtain⟨h2,h3⟩:=ho.caps.2.2 hA;exact⟨aQ h2,h3⟩
 ·rcases ho with ⟨h0,_⟩|⟨g,cur,h0,_⟩
  ·rw[h0]at hA;cases hA
  ·rw[h0]at hA;simp only[bD,Addr.mk.injEq,and_true]at hA;obtain⟨rfl,rfl⟩:=hA;have:=hp g (by rw[h0];simp);omega
theorem qS {P:bG}{w:World}(t ty e:TypeId) (i:TypeInfo) (ht:P.underlying t=some (.slice e)) (hi:P.info? e=some i) (g d sLen sCap:Nat) (cur:Array Value) (hg:gF w g e cur)
  (a:Addr) (m c:Nat) (news:List Value) (hl:news.length=m * i.size) (hnews:∀j u,news[j]?=some u→w.cell? (a.add j)=some u) (h1:∀u∈news,u.oneCell'=true) (hroom:sLen+m≤sCap) (hfit:d+sLen * i.size+news.length≤cur.size) :
  (Builtin.append_ #[t,t] ty #[.slice (some ⟨g,d,none⟩) sLen sCap,.slice (some a) m c]).run P w =
   .ok (.slice (some ⟨g,d,none⟩) (sLen+m) sCap) (w.setRow g (cur.toList.take (d+sLen * i.size)++news++cur.toList.drop (d+sLen * i.size+news.length)).toArray):=by
 have hf:=run_firstCells_some (P:=P) w i.size m a m c news hl hnews;have hst:=run_storeCells_at P g (d+sLen * i.size) e news 0 cur w hg (by simpa using hfit) h1;simp only[Nat.add_zero]at hst;simp[Builtin.append_,run_underlying ht,sizeOf,typeInfo,hi,Builtin.lenOf,hroom,hf,Addr.add_lit,hst]
theorem BJ {P:bG}{w:World}(t ty e:TypeId) (i:TypeInfo) (z:Value) (sz bytes:Nat) (ht:P.underlying t=some (.slice e)) (hi:P.info? e=some i) (hz:i.zero=some z)
  (hsize:i.size=sz) (hby:i.bytes=bytes) (hzs:z.cells.size=sz) {x:Bool}
  {A A':Option Addr}{d n c m c':Nat}{us news:List Value}(ho:kK w e sz x A d n c us) (hc:tP w sz A' m news) (hcn:A'=none→m=0) (h1:∀u∈news,u.oneCell'=true) (h63:n+m≤maxLen) (hbytes:(n+m) * bytes≤140737488355328) :
  ∃A2 d2 c2 w',(Builtin.append_ #[t,t] ty #[.slice A n c,.slice A' m c']).run P w=.ok (.slice A2 (n+m) c2) w'∧kK w' e sz x A2 d2 (n+m) c2 (us++news)∧
   ((A2=A∧d2=d∧c2=c∧w'=w∧news=[])∨(∃g cur,A=some ⟨g,d,none⟩∧A2=A∧d2=d∧c≠0∧gF w g e cur∧w'=w.setRow g (cur.toList.take (d+n * sz)++news++cur.toList.drop (d+n * sz+news.length)).toArray∧d+n * sz+news.length≤cur.size)∨
     (A2=some ⟨w.heap.size,0,none⟩∧d2=0∧∃arr,w'=w.drew.alloc (.cells arr e))):=by
 subst hsize;subst hby;have hsmall:n+m≤9223372036854775807:=by simp only[maxLen]at h63;omega
 have hlen:(us++news).length=(n+m) * i.size:=by rw[aM,ho.len,hc.len,Nat.add_mul]
 have grown:∀(old:Nat),old < n+m →
   kK (w.drew.alloc (.cells (us.toArray++news.toArray++Builtin.zeroCells z.cells (grownCap w (n+m) old e - (n+m))) e)) e i.size x (some ⟨w.heap.size,0,none⟩) 0 (n+m) (grownCap w (n+m) old e) (us++news):=by
  intro old hold;have hge:=grownCap_ge w (n+m) old e;have hcm:grownCap w (n+m) old e≤maxLen:=grownCap_le_maxLen w (n+m) old e h63;refine fP.offs (fP.of_blk (heap_alloc_new w.drew _) hge hcm ?_ ?_)
  ·simp only[Array.size_append,List.size_toArray,size_zeroCells,hzs,ho.len,hc.len,←Nat.add_mul];congr 1;omega
  ·simp only[Array.toList_append,bE];rw[←bE,←hlen];exact List.take_left
 rcases A' with _|ad
 ·obtain rfl:=hcn rfl;have hn:=hc.nil_ rfl;subst hn;refine⟨A,d,c,w,?_,by simpa using ho,.inl ⟨rfl,rfl,rfl,rfl,rfl⟩⟩;have:n≤c:=ho.caps.1;cases A<;>simp[Builtin.append_,run_underlying ht,sizeOf,typeInfo,hi,Builtin.lenOf,Builtin.firstCells,this,storeCells]
 ·have hnews:∀j u,news[j]?=some u→w.cell? (ad.add j)=some u:=fun j u hu=>by
   obtain⟨b,o,he,hcell⟩:=hc.get j u hu;simp only[bD]at he;subst he;rw[Addr.add_lit];exact hcell
  have ho0:=ho;rcases ho with ⟨rfl,rfl,rfl,rfl,rfl⟩|⟨g,cur,rfl,hb,r1,r2,r3,r4,r5⟩
  ·by_cases hm:m=0
   ·subst hm;have hn:news=[]:=aQ (by have:=hc.len;omega);subst hn;refine⟨none,0,0,w,?_,by simpa using ho0,.inl ⟨rfl,rfl,rfl,rfl,rfl⟩⟩;simp[Builtin.append_,run_underlying ht,sizeOf,typeInfo,hi,Builtin.lenOf,Builtin.firstCells,loadCells,loadCellsFrom]
   ·have hr:=run_append_nil (P:=P) w t ty e i z ht hi hz ad m c' news hc.len hnews (by omega) (by omega) (by have hb:=hbytes;simp only[Nat.zero_add]at hb;omega);have hgr:=grown 0 (by omega);simp only[Nat.zero_add,List.nil_append,Array.empty_append]at hgr⊢;exact⟨_,_,_,_,hr,hgr,.inr (.inr ⟨rfl,rfl,_,rfl⟩)⟩
  ·by_cases hroom:n+m≤c
   ·have hmul:=Nat.mul_le_mul_right i.size hroom;rw[Nat.add_mul]at hmul;have hnl:=hc.len;have hfit:d+n * i.size+news.length≤cur.size:=by omega
    have hr:=qS (P:=P) (w:=w) t ty e i ht hi g d n c cur hb ad m c' news hc.len hnews h1 hroom hfit;by_cases hne:news=[]
    ·subst hne;have hself:(cur.toList.take (d+n * i.size)++[]++cur.toList.drop (d+n * i.size+([]:List Value).length)).toArray=cur:=by simp
     rw[hself,setRow_self w g cur e _ hb]at hr;have hm0:m * i.size=0:=by simpa using hnl.symm
     refine⟨_,d,_,_,hr,.inr ⟨g,cur,rfl,hb,hroom,r2,r3,?_,r5⟩,.inl ⟨rfl,rfl,rfl,rfl,rfl⟩⟩;rw[Nat.add_mul,hm0,List.append_nil];exact r4
    ·have hc0:c≠0:=by
      rintro rfl;obtain rfl:m=0:=by omega
      exact hne (aQ (by omega))
     refine⟨_,d,_,_,hr,.inr ⟨g,_,rfl,setRow_heap w g cur _ e _ hb,hroom,r2,?_,?_,fun hx=>⟨(r5 hx).1,?_⟩⟩,.inr (.inl ⟨g,cur,rfl,rfl,rfl,hc0,hb,rfl,hfit⟩)⟩
     ·simp only[List.size_toArray,aM,aR,List.length_drop,bA];omega
     ·have hud:us.length=n * i.size:=ho0.len;have hdl:(cur.toList.take d).length=d:=by rw[aR,bA];omega
      have e1:cur.toList.take (d+n * i.size)=cur.toList.take d++us:=by rw[List.take_add,r4]
      rw[bE,e1,bE];show ((cur.toList.take d++(us++(news++_))).drop d).take _=_;rw[List.drop_left' hdl,←hlen,←bE,List.take_left]
     ·have:=(r5 hx).2;simp only[List.size_toArray,aM,aR,List.length_drop,bA];omega
   ·have holds:∀j u,us[j]?=some u→w.cell? ((⟨g,d,none⟩:Addr).add j)=some u:=fun j u hu=>by
     obtain⟨b,o,he,hcell⟩:=ho0.cells_.get j u hu;simp only[bD]at he;rw[he,Addr.add_lit];exact hcell
    have hr:=run_append_grow (P:=P) w t ty e i z ht hi hz ⟨g,d,none⟩ n c us ho0.len holds ad m c' news hc.len hnews (by omega) (by omega) (growslice_fits (by omega) hbytes);exact⟨_,_,_,_,hr,grown c (by omega),.inr (.inr ⟨rfl,rfl,_,rfl⟩)⟩
section
variable {C:kN}{st:St}{a:Act}{w:World}{r:cF}{pub:cI}
theorem bM.publish (h:bM C st a w r pub) {k t sz:Nat}{xs:List AV}(hk:st.H[k]?=some (.row t sz xs)):∃pub',bM C ⟨st.T,st.H.set k (.tip t sz xs)⟩ a w r pub'∧lV pub w pub' w:=by
 obtain⟨A,c,us,hr,ho,hc,hs,hp⟩:=h.ent_row hk;rcases ho.cases_ with ⟨rfl,h0,rfl,rfl⟩|⟨g,cur,rfl,hb,r1,r2,r3,r4⟩
 ·have hx:xs=[]:=aQ h0;subst hx;refine⟨pub,⟨?_,h.own,h.fr,h.slots,h.defers,h.size,h.stab,⟨h.low.1,by simpa using h.low.2⟩⟩,lV.refl _ _⟩;refine h.mod.set hr (S:=fun _=>False) (Fr.refl _ _ _) (fun _ h=>h.elim) h.mod.fresh h.mod.there ?_;exact .tip (z:=true) (fP.offs (fP.nil _ _ _)) .nil (by simp) (by simp)
 ·have hle:xs.length * sz≤c * sz:=Nat.mul_le_mul_right sz r1;have hself:w.setRow g cur=w:=setRow_self w g cur t _ hb;have hz:pub g=0:=hp g (by simp);have:=h.turn (e:=.tip t sz xs) hr (by simp[bY]) hb (fun b=>if b=g then xs.length * sz else pub b) (fun b hb=>by simp[hb]) (by omega) (arr':=cur) (fun _ _=>rfl) (fun _=>rfl) (fun i hi=>by simp at hi;omega) (fun hf=>by
   rw[hself]at hf⊢;exact .tip (z:=true) ho.offs (hc.ext hf.ext) hs (fun b hb=>by simp at hb;subst hb;simp))
  rw[hself]at this;have hf:=Fr.setRow_ (pub:=pub) hb (fun b=>if b=g then xs.length * sz else pub b) (fun b hb=>by simp[hb]) (by rw[hz];exact aI _) (arr':=cur) (fun _ _=>rfl) (fun _=>rfl);rw[hself]at hf;exact⟨_,this,hf.ext⟩
theorem bM.adopt (h:bM C st a w r pub) {q:Nat}(hq:st.H[q]?=some .dead) (t sz:Nat):bM C ⟨st.T,st.H.set q (.row t sz [])⟩ a w (eN r q (.slice none 0 0)) pub:=by
 refine⟨h.mod.fill (S:=fun _=>False) hq (Fr.refl _ _ _) (fun _ _ _ _ _ h=>h) h.mod.fresh h.mod.there (fun k y hy b hb hb'=>by simp[bY]at hb') ?_,fun k y hy b hb=>?_,h.fr,h.slots.mono (jG (h.mod.dead_none hq)),h.defers,h.size,fun k y hy hs=>jG (h.mod.dead_none hq) _ _ (h.stab k y hy hs),⟨h.low.1,by simpa using h.low.2⟩⟩
 ·exact dR.row (A:=none) (xs:=[]) (us:=[]) (fP.nil _ _ _) .nil (by simp) (by simp)
 ·by_cases hk:k=q
  ·subst hk;rw[bW]at hy;cases hy;simp[bY]at hb
  ·rw[cG _ _ hk]at hy;exact h.own k y hy b hb
theorem bM.turnAt (h:bM C st a w r pub) {k:Nat}{x x':Value}{e:cC}{y:AV}{S:Nat→Prop}{pub':cI}{w':World}(hx:r k=some x) (hxs:agB x=true) (hf:Fr S pub w pub' w') (hS:∀b,S b→b∈bY x)
  (h1:∀b,w'.heap.size≤b→pub' b=0) (h2:∀b i,i < pub' b→∃u,w'.cell? ⟨b,i,none⟩=some u) (hx':∀b∈bY x',b∈bY x∨w.heap.size≤b)
  (hy:bS pub' w' (eN r k x') y x) (he:dR pub' w' (eN r k x') (some x') e) :
  bM C ⟨Ws k y st.T,(st.H.map (cC.kill k y)).set k e⟩ a w' (eN r k x') pub':=by
 refine⟨h.mod.turn hx hf hS h1 h2 hx' hy he,fun j z hz b hb=>?_,h.fr.trans hf (fun b hb=>h.own k x hx b (hS b hb)),?_,h.defers,h.size,fun j y hy hs=>?_,⟨h.low.1,by simpa using h.low.2⟩⟩
 rotate_left 2
 ·have h0:=h.stab j y hy hs;rw[cG]
  ·exact h0
  ·rintro rfl;rw[hx]at h0;cases h0;rw[hxs]at hs;cases hs
 ·by_cases hj:j=k
  ·subst hj;rw[bW]at hz;cases hz;rcases hx' b hb with h3|h3
   ·exact h.own j x hx b h3
   ·right;have:=h.fr.size;omega
  ·rw[cG _ _ hj]at hz;exact h.own j z hz b hb
 ·exact(h.slots.ext hf.ext).kill (fun m hm=>cG _ _ hm) (fun z hz=>by rw[hx]at hz;cases hz;exact hy)
theorem bM.append (h:bM C st a w r pub) {P:bG}{k:Nat}(t ty e:TypeId) (i:TypeInfo) (z:Value) (sz bytes:Nat) (ht:P.underlying t=some (.slice e)) (hi:P.info? e=some i) (hz:i.zero=some z)
  (hsize:i.size=sz) (hby:i.bytes=bytes) (hzs:z.cells.size=sz) (tip:Bool) {xs ys:List AV}
  (hk:st.H[k]?=some (if tip then .tip e sz xs else .row e sz xs)) {A':Option Addr}{c':Nat}{news:List Value}(hc:tP w sz A' ys.length news) (hcn:A'=none→ys=[]) (hn:bO pub w cM (ys.flatMap AV.cells) news)
  (hys:∀y∈ys,y.cells.length=sz∧y.cells.all AV.one=true) (h63:xs.length+ys.length≤maxLen) (hbytes:(xs.length+ys.length) * bytes≤140737488355328) :
  ∃v v' w' r' pub',r k=some v∧(Builtin.append_ #[t,t] ty #[v,.slice A' ys.length c']).run P w=.ok v' w'∧r' k=some v'∧v'.oneCell'=true∧(∀j,j≠k→r' j=r j)∧Fr (fun b=>b∈bY v) pub w pub' w'∧
   bM C ⟨Ws k (if tip then .sl sz xs else .any) st.T,(st.H.map (cC.kill k (if tip then .sl sz xs else .any))).set k (if tip then .tip e sz (xs++ys) else .row e sz (xs++ys))⟩ a w' r' pub':=by
 have h1:∀u∈news,u.oneCell'=true:=fun u hu=>by
  obtain⟨q,hq⟩:=aU hu;have hql:q < (ys.flatMap AV.cells).length:=by rw[←hn.len];exact(aA.1 hq).1
  refine(hn.at_ q _ u (aB hql) hq).one_ ?_;obtain⟨y,hy,hm⟩:=List.mem_flatMap.1 (List.getElem_mem hql);exact(aS.1 (hys y hy).2) _ hm
 have hboth:∃A d c x us,r k=some (.slice A xs.length c)∧kK w e sz x A d xs.length c us∧bO pub w cM (xs.flatMap AV.cells) us∧(∀x∈xs,x.cells.length=sz∧x.cells.all AV.one=true)∧(tip=false→x=true)∧
   ∀b∈gC A,(if tip then d+xs.length * sz else 0)≤pub b∧(tip=false∨c≠0→pub b=if tip then d+xs.length * sz else 0):=by
  cases tip with
  |true=>
   obtain⟨A,d,c,x,us,h1,h2,h3,h4,h5⟩:=h.ent_tip (by simpa using hk);exact⟨A,d,c,x,us,h1,h2,h3,h4,(fun h=>by cases h),fun b hb=>⟨(h5 b hb).1,fun hh=>(h5 b hb).2 (hh.resolve_left (by simp))⟩⟩
  |false=>
   obtain⟨A,c,us,h1,h2,h3,h4,h5⟩:=h.ent_row (by simpa using hk);exact⟨A,0,c,true,us,h1,h2.offs,h3,h4,fun _=>rfl,fun b hb=>by rw[h5 b hb];simp⟩
 obtain⟨A,d,c,x,us,hr,ho,hcs,hs,hx,hp⟩:=hboth;obtain⟨A2,d2,c2,w',hrun,ho2,hcase⟩:=BJ (P:=P) (c':=c') t ty e i z sz bytes ht hi hz hsize hby hzs ho hc (fun hA=>by rw[hcn hA];rfl) h1 h63 hbytes;have hlen2:(xs++ys).length=xs.length+ys.length:=aM;rw[←hlen2]at ho2 hrun;have hsz2:xs.length * sz+news.length=(xs++ys).length * sz:=by rw[hlen2,Nat.add_mul,hc.len]
 have hs2:∀x∈xs++ys,x.cells.length=sz∧x.cells.all AV.one=true:=fun x hx=>by
  rcases List.mem_append.1 hx with hx|hx
  ·exact hs x hx
  ·exact hys x hx
 -- the new publishing,and what turns
 have main:∃pub',Fr (fun b=>b∈gC A) pub w pub' w'∧(∀b,w'.heap.size≤b→pub' b=0)∧(∀b i,i < pub' b→∃u,w'.cell? ⟨b,i,none⟩=some u)∧(∀b∈gC A2,(if tip then d2+(xs++ys).length * sz else 0)≤pub' b∧(tip=false∨c2≠0→pub' b=if tip then d2+(xs++ys).length * sz else 0))∧(∀b∈gC A2,b∈gC A∨w.heap.size≤b):=by
  rcases hcase with ⟨rfl,rfl,rfl,rfl,rfl⟩|⟨g,cur,rfl,rfl,rfl,hc0,hb,rfl,hfit⟩|⟨rfl,rfl,arr,rfl⟩
  ·have:ys.length * sz=0:=by have:=hc.len;simp at this;omega
   refine⟨pub,Fr.refl _ _ _,h.mod.fresh,h.mod.there,fun b hb=>?_,fun b hb=>.inl hb⟩;have:=hp b hb;rw[hlen2,Nat.add_mul,‹ys.length * sz=0›,Nat.add_zero];exact this
  ·have hg0:=(hp g (by simp)).2 (.inr hc0);refine⟨fun b=>if b=g then (if tip then d2+(xs++ys).length * sz else 0) else pub b,?_,fun b hb'=>?_,fun b q hq=>?_,fun b hb'=>?_,fun b hb'=>.inl hb'⟩
   ·refine(Fr.setRow_ hb _ (fun b hb'=>by simp[hb']) ?_ (fun q hq=>?_) (fun _=>by simp only[List.size_toArray,aM,aR,List.length_drop,bA];omega)).mono (fun b hb'=>.inl (by subst hb';simp))
    ·simp only[if_true];rw[hg0];cases tip
     ·simp
     ·simp only[if_true];omega
    ·rw[hg0]at hq;cases tip with
     |false=>simp at hq
     |true=>
      simp only[if_true]at hq;have hq2:q < cur.size:=by omega
      have e1:(cur.toList.take (d2+xs.length * sz)).length=d2+xs.length * sz:=by have:=bA (xs:=cur);rw[aR];omega
      simp only[List.getElem?_toArray,bE];rw[List.getElem?_append_left (by omega),List.getElem?_take,aF hq,aX]
   ·rw[setRow_size]at hb';have:=hb.lt;simp only[aE (show ¬b=g by omega)];exact h.mod.fresh b hb'
   ·by_cases e1:b=g
    ·subst e1;rw[cell_setRow_same w b q cur _ e _ hb];simp only[if_true]at hq;refine⟨_,aK ?_⟩;simp only[List.size_toArray,aM,aR,List.length_drop,bA];cases tip
     ·simp at hq
     ·simp only[if_true]at hq;omega
    ·simp only[aE e1]at hq;rw[cell_setRow_other w g _ _ (by exact e1)];exact h.mod.there b q hq
   ·simp at hb';subst hb';simp
  ·refine⟨fun b=>if b=w.heap.size then (if tip then (xs++ys).length * sz else 0) else pub b,?_,fun b hb'=>?_,fun b q hq=>?_,fun b hb'=>?_,fun b hb'=>.inr (by simp at hb';omega)⟩
   ·refine⟨rfl,rfl,rfl,by simp,fun b hb' _=>⟨Below.heap_alloc w.drew _ b hb',by simp[show ¬b=w.heap.size by omega]⟩,fun b=>?_,fun b q u _ hu=>?_,fun b _ _ hn=>jB (Below.heap_alloc w.drew _ b (lX (w:=w.drew) hn)) hn⟩
    ·by_cases e1:b=w.heap.size
     ·rw[h.mod.fresh b (by omega)];exact aI _
     ·simp[e1]
    ·rw[World.cell?_of_block (w:=w) (a:=⟨b,q,none⟩) (Below.heap_alloc w.drew _ b (World.block_lt_of_cell? w _ hu))];exact hu
   ·simp at hb';simp only[aE (show ¬b=w.heap.size by omega)];exact h.mod.fresh b (by omega)
   ·by_cases e1:b=w.heap.size
    ·subst e1;simp only[if_true]at hq;cases tip
     ·simp at hq
     ·simp only[if_true]at hq;have:=ho2.cells_;have hq3:q < (us++news).length:=by rw[aM,ho.len];omega
      obtain⟨b,o,hA,hcell⟩:=this.get q _ (aB hq3);simp only[bD,Addr.mk.injEq,and_true]at hA;obtain⟨rfl,rfl⟩:=hA;rw[Nat.zero_add]at hcell;exact⟨_,hcell⟩
    ·simp only[aE e1]at hq;obtain⟨u,hu⟩:=h.mod.there b q hq;refine⟨u,?_⟩;rw[World.cell?_of_block (w:=w) (a:=⟨b,q,none⟩) (Below.heap_alloc w.drew _ b (World.block_lt_of_cell? w _ hu))];exact hu
   ·simp at hb';subst hb';simp
 obtain⟨pub',hf,hfr,hth,hpn,hfp⟩:=main;refine⟨.slice A xs.length c,.slice A2 (xs++ys).length c2,w',eN r k (.slice A2 (xs++ys).length c2),pub',hr,hrun,bW _ _ _,rfl,fun j hj=>cG _ _ hj,hf,h.turnAt hr rfl hf (fun b hb=>hb) hfr hth hfp ?_ ?_⟩
 ·cases tip with
  |false=>exact .any _
  |true=>exact(Dv (r:=r) ho hcs hs (fun b hb=>by simpa using(hp b hb).1)).ext hf.ext |>.congr (fun n hn=>by simp[AV.has]at hn)
 ·have hcs2:bO pub' w' cM ((xs++ys).flatMap AV.cells) (us++news):=by
   rw[List.flatMap_append];exact(hcs.ext hf.ext).app (hn.ext hf.ext)
  cases tip with
  |false=>
   obtain rfl:=hx rfl;exact .row ho2.own.1 hcs2 hs2 (fun b hb=>by simpa using(hpn b hb).2 (.inl rfl))
  |true=>exact .tip ho2 hcs2 hs2 (fun b hb=>by simpa using hpn b hb)
theorem bM.tail (h:bM C st a w r pub) {k t sz:Nat}{xs:List AV}(hk:st.H[k]?=some (.tip t sz xs)) {n:Nat}(hn:n≤xs.length) :
  ∃A c,r k=some (.slice A xs.length c)∧xs.length≤c∧bM C ⟨Ws k (.sl sz xs) st.T,(st.H.map (cC.kill k (.sl sz xs))).set k (.tip t sz (xs.drop n))⟩ a w (eN r k (.slice (if c=n then A else A.map (·.add (n * sz))) (xs.length - n) (c - n))) pub:=by
 obtain⟨A,d,c,x,us,hr,ho,hc,hs,hp⟩:=h.ent_tip hk;obtain⟨h1,h2,h3⟩:=ho.caps;have hfo:∀b∈bY (.slice (if c=n then A else A.map (·.add (n * sz))) (xs.length - n) (c - n)),b∈gC A:=fun b hb=>by
  split at hb
  ·exact hb
  ·cases A with
   |none=>exact hb
   |some q=>
    have e:(q.add (n * sz)).block=q.block:=by unfold Addr.add;split<;>rfl
    simpa [bY,e]using hb
 refine⟨A,c,hr,h1,h.turnAt (S:=fun _=>False) hr rfl (Fr.refl _ _ _) (fun _ h=>h.elim) h.mod.fresh h.mod.there (fun b hb=>.inl (hfo b hb)) ?_ ?_⟩
 ·exact Dv (r:=eN r k _) ho hc hs fun b hb=>(hp b hb).1
 ·have hlen:(xs.drop n).length=xs.length - n:=List.length_drop;have hsz:∀x∈xs.drop n,x.cells.length=sz∧x.cells.all AV.one=true:=fun x hx=>hs x (List.mem_of_mem_drop hx)
  have hus:=ho.len;have hcd:bO pub w cM ((xs.drop n).flatMap AV.cells) (us.drop (n * sz)):=by
   have e:(xs.drop n).flatMap AV.cells=(xs.flatMap AV.cells).drop (n * sz):=by
    have e1:xs=xs.take n++xs.drop n:=by simp
    have e2:=congrArg (List.flatMap AV.cells) e1;rw[List.flatMap_append]at e2;have e3:((xs.take n).flatMap AV.cells).length=n * sz:=by
     rw[eA _ (fun z hz=>(hs z (List.mem_of_mem_take hz)).1),aR];congr 1;omega
    rw[e2,←e3,List.drop_left]
   rw[e];exact hc.drop _
  rw[←hlen]
  split
  ·rename_i e;subst e;obtain rfl:xs.length=c:=Nat.le_antisymm h1 hn;have hx0:xs.drop xs.length=[]:=List.drop_length;have hu0:us.drop (xs.length * sz)=[]:=by rw[←hus];exact List.drop_length
   rw[hu0,hx0]at hcd;rw[hx0];refine .tip (d:=d) (z:=false) (us:=[]) ?_ hcd (by simp) (fun b hb=>⟨?_,fun h=>absurd (Nat.sub_self _) h⟩)
   ·rcases ho with ⟨rfl,rfl,_⟩|⟨g,cur,rfl,hb,_,_,r3,_⟩
    ·exact .inl ⟨rfl,rfl,rfl,Nat.sub_self _,rfl⟩
    ·exact .inr ⟨g,cur,rfl,hb,aI _,by omega,by simp;omega,by simp,fun h=>by cases h⟩
   ·have:=(hp b hb).1;simp;omega
  ·rename_i e;rcases ho with ⟨rfl,rfl,e1,rfl,_⟩|⟨g,cur,rfl,hb,r1,r2,r3,r4,_⟩
   ·omega
   ·have hmul:=Nat.mul_le_mul_right sz hn;have hmc:=Nat.mul_le_mul_right sz (Nat.le_trans hn r1);refine .tip (d:=d+n * sz) (z:=false) (us:=us.drop (n * sz)) (.inr ⟨g,cur,by simp[Addr.add_lit],hb,by omega,by omega,?_,?_,fun h=>by cases h⟩) hcd hsz (fun b hb=>?_)
    ·rw[Nat.sub_mul];omega
    ·rw[←r4,List.drop_take,List.drop_drop,hlen,Nat.sub_mul]
    ·simp[Addr.add_lit]at hb;subst hb;obtain⟨p1,p2⟩:=hp b (by simp);rw[hlen,Nat.sub_mul];exact⟨by omega,fun _=>by rw[p2 (by omega)];omega⟩
end
def fO (w:World) (b:Nat) (o:Obj):World:={ w with heap:=w.heap.setIfInBounds b o }
theorem W1 {w:World}{b:Nat}(o:Obj) (h:b < w.heap.size):(fO w b o).heap[b]?=some o:=by
 show (w.heap.setIfInBounds b o)[b]?=some o;rw[Array.getElem?_setIfInBounds_self_of_lt h]
theorem lL {w:World}{b n:Nat}(o:Obj) (h:n≠b):(fO w b o).heap[n]?=w.heap[n]?:=by
 show (w.heap.setIfInBounds b o)[n]?=w.heap[n]?;rw[Array.getElem?_setIfInBounds_ne (Ne.symm h)]
theorem nJ (w:World) (b:Nat) (o:Obj):(fO w b o).heap.size=w.heap.size:=by
 show (w.heap.setIfInBounds b o).size=_;simp
theorem Fr.objW_ {w:World}{b:Nat}(o:Obj) (pub:cI) (hp:pub b=0):Fr (fun x=>x=b) pub w pub (fO w b o):=by
 refine⟨rfl,rfl,rfl,by rw[nJ];exact aN _,fun x _ hn=>⟨lL o hn,rfl⟩,fun _=>aN _,fun x i u hi hu=>?_,fun x n hi hn=>jB (lL o (by rintro rfl;omega)) hn⟩;have hx:x≠b:=by rintro rfl;omega
 rw[World.cell?_of_block (w:=w) (a:=⟨x,i,none⟩) (lL o hx)];exact hu
section
variable {C:kN}{st:St}{a:Act}{w:World}{r:cF}{pub:cI}
theorem bM.ent_map (h:bM C st a w r pub) {k:Nat}{t:TypeId}{es:List (AV×AV)}(hk:st.H[k]?=some (.map t es)):∃b ms clock,r k=some (.map (some b))∧w.heap[b]?=some (.map ms clock)∧ms.size=es.length∧bO pub w cM (es.map (·.1)) (ms.toList.map (·.key))∧
  bO pub w cM (es.map (·.2)) (ms.toList.map (·.val))∧pub b=0:=by
 have h0:=h.mod.ent k _ hk;generalize hx:r k=x at h0;cases h0 with
 |map hb hl hk1 hv hp _=>exact⟨_,_,_,rfl,hb,hl,hk1,hv,hp⟩
def MB (_:Nat):Nat:=0
theorem Jx (t:Nat):¬Nat.blt 0 (MB t)=true:=by unfold MB;decide
theorem bM.ent_mapB (h:bM C st a w r pub) {k:Nat}{t:TypeId}{es:List (AV×AV)}(hk:st.H[k]?=some (.map t es)):∃b ms clock,r k=some (.map (some b))∧w.heap[b]?=some (.map ms clock)∧ms.size=es.length∧bO pub w cM (es.map (·.1)) (ms.toList.map (·.key))∧
  bO pub w cM (es.map (·.2)) (ms.toList.map (·.val))∧pub b=0∧(Nat.blt 0 t=true→clock=ms.size∧∀(i:Nat) (m:MapEntry),ms[i]?=some m→m.born=i):=by
 have h0:=h.mod.ent k _ hk;generalize hx:r k=x at h0;cases h0 with
 |map hb hl hk1 hv hp hbo=>exact⟨_,_,_,rfl,hb,hl,hk1,hv,hp,hbo⟩
theorem bM.mapSet (h:bM C st a w r pub) {k b:Nat}{t:TypeId}{es:List (AV×AV)}{ms:Array MapEntry}{clock:Nat}(hx:r k=some (.map (some b))) (hb:b < w.heap.size) (hp:pub b=0) (hl:ms.size=es.length)
  (hk1:bO pub w cM (es.map (·.1)) (ms.toList.map (·.key))) (hv:bO pub w cM (es.map (·.2)) (ms.toList.map (·.val)))
  (hbo:Nat.blt 0 t=true→clock=ms.size∧∀(i:Nat) (m:MapEntry),ms[i]?=some m→m.born=i):bM C ⟨st.T,st.H.set k (.map t es)⟩ a (fO w b (.map ms clock)) r pub:=by
 have hf:=Fr.objW_ (w:=w) (b:=b) (.map ms clock) pub hp;refine⟨h.mod.set hx hf (fun n hn=>by subst hn;simp[bY]) (fun n hn=>by rw[nJ]at hn;exact h.mod.fresh n hn) (fun n i hi=>?_) (.map (W1 _ hb) hl (hk1.ext hf.ext) (hv.ext hf.ext) hp hbo),h.own,h.fr.trans hf (fun n hn=>?_),h.slots.ext hf.ext,h.defers,h.size,h.stab,⟨h.low.1,by simpa using h.low.2⟩⟩
 ·obtain⟨u,hu⟩:=h.mod.there n i hi;exact⟨u,hf.ext.cell n i u hi hu⟩
 ·subst hn;exact h.own k _ hx _ (by simp[bY])
end
def dY:List Nat→Nat→Nat→Nat
 |[],base,i=>base+i
 |k :: _,_,0=>k
 |_ :: l,base,i+1=>dY l base i
mutual
def AV.ren (s:List Nat) (base:Nat):AV→AV
 |.ptr k o=>.ptr (dY s base k) o
 |.hd k=>.hd (dY s base k)
 |.ph k=>.ph (dY s base k)
 |.re k a b c=>.re (dY s base k) a b c
 |.agg l=>.agg (AV.renL s base l)
 |.tup l=>.tup (AV.renL s base l)
 |.clo f l=>.clo f (AV.renL s base l)
 |.mth f l=>.mth f (AV.renL s base l)
 |.any=>.any
 |.bl b=>.bl b
 |.int k x=>.int k x
 |.str x=>.str x
 |.v x=>.v x
 |.sl a b=>.sl a b
 |.rp a b=>.rp a b
def AV.renL (s:List Nat) (base:Nat):List AV→List AV
 |[]=>[]
 |x :: l=>AV.ren s base x :: AV.renL s base l
end
def cC.ren (s:List Nat) (base:Nat):cC→cC
 |.blk t cs=>.blk t (AV.renL s base cs)
 |.dead=>.dead
 |.row t sz xs=>.row t sz xs
 |.tip t sz xs=>.tip t sz xs
 |.map t es=>.map t es
 |.hrow t sz n cs=>.hrow t sz n (AV.renL s base cs)
 |.pool t es outs=>.pool t es (outs.map fun p=>(p.1,AV.ren s base p.2))
 |.iter x since seen=>.iter (AV.ren s base x) since seen
def gY (s:List Nat) (base:Nat):List cC→List cC
 |[]=>[]
 |e :: l=>e.ren s base :: gY s base l
theorem AV.renL_map (s:List Nat) (base:Nat):∀l,AV.renL s base l=l.map (AV.ren s base)
 |[]=>by unfold AV.renL;rfl
 |x :: l=>by unfold AV.renL;rw[AV.renL_map s base l];rfl
theorem gP (s:List Nat) (base:Nat):∀l,gY s base l=l.map (cC.ren s base)
 |[]=>rfl
 |x :: l=>by unfold gY;rw[gP s base l];rfl
theorem AV.renL_get {s:List Nat}{base:Nat}{l:List AV}{i:Nat}{z:AV}(h:(AV.renL s base l)[i]?=some z):∃x,l[i]?=some x∧z=x.ren s base:=by
 rw[AV.renL_map,aD]at h;cases hx:l[i]? with
 |none=>rw[hx]at h;cases h
 |some x=>rw[hx]at h;cases h;exact⟨x,rfl,rfl⟩
theorem bS.ren {pub:cI}{w:World}{r r':cF}{a:AV}{x:Value}{s:List Nat}{base:Nat}(h:bS pub w r a x):(∀k y,r k=some y→r' (dY s base k)=some y)→bS pub w r' (a.ren s base) x:=by
 induction h with
 |any x=>intro _;unfold AV.ren;exact .any x
 |bl b=>intro _;unfold AV.ren;exact .bl b
 |int k x=>intro _;unfold AV.ren;exact .int k x
 |str x=>intro _;unfold AV.ren;exact .str x
 |v x h=>intro _;unfold AV.ren;exact .v x h
 |agg hl _ ih=>
  intro hk;unfold AV.ren;refine .agg (by rw[AV.renL_map,aJ];exact hl) fun i z u hz hu=>?_
  obtain⟨x,hx,rfl⟩:=AV.renL_get hz;exact ih i x u hx hu hk
 |tup hl _ ih=>
  intro hk;unfold AV.ren;refine .tup (by rw[AV.renL_map,aJ];exact hl) fun i z u hz hu=>?_
  obtain⟨x,hx,rfl⟩:=AV.renL_get hz;exact ih i x u hx hu hk
 |ptr off h=>intro hk;unfold AV.ren;exact .ptr off (hk _ _ h)
 |hd h h1=>intro hk;unfold AV.ren;exact .hd (hk _ _ h) h1
 |ph h h0 h1=>intro hk;unfold AV.ren;exact .ph (hk _ _ h) h0 h1
 |sl hc hm hn hs g hr hg _=>intro _;unfold AV.ren;exact .sl hc hm hn hs g hr hg
 |rp j ho g hr hg _=>intro _;unfold AV.ren;exact .rp j ho g hr hg
 |re sz i j h=>intro hk;unfold AV.ren;exact .re sz i j (hk _ _ h)
 |clo f hl _ ih=>
  intro hk;unfold AV.ren;refine .clo f (by rw[AV.renL_map,aJ];exact hl) fun i z u hz hu=>?_
  obtain⟨x,hx,rfl⟩:=AV.renL_get hz;exact ih i x u hx hu hk
 |mth f hl _ ih=>
  intro hk;unfold AV.ren;refine .mth f (by rw[AV.renL_map,aJ];exact hl) fun i z u hz hu=>?_
  obtain⟨x,hx,rfl⟩:=AV.renL_get hz;exact ih i x u hx hu hk
theorem bS.unren {pub:cI}{w:World}{r r':cF}{b:AV}{x:Value}{s:List Nat}{base:Nat}(h:bS pub w r' b x):∀a:AV,b=a.ren s base→(∀k y,a.has k=true→r' (dY s base k)=some y→r k=some y)→bS pub w r a x:=by
 induction h with
 |any x=>intro a e hk;cases a<;>unfold AV.ren at e<;>first|exact .any _|cases e
 |bl b=>intro a e hk;cases a<;>unfold AV.ren at e<;>first|(cases e;exact .bl _)|cases e
 |int k x=>intro a e hk;cases a<;>unfold AV.ren at e<;>first|(cases e;exact .int _ _)|cases e
 |str x=>intro a e hk;cases a<;>unfold AV.ren at e<;>first|(cases e;exact .str _)|cases e
 |v x h=>intro a e hk;cases a<;>unfold AV.ren at e<;>first|(cases e;exact .v _ h)|cases e
 |agg hl _ ih=>
  intro a e hk;cases a<;>unfold AV.ren at e<;>try(cases e;done)
  rename_i l;cases e;rw[AV.renL_map,aJ]at hl;refine .agg hl fun i z u hz hu=>ih i _ u (by rw[AV.renL_map,aD,hz];rfl) hu z rfl fun k y hh hr=>hk k y (by unfold AV.has;exact AV.hasL_mem hz hh) hr
 |tup hl _ ih=>
  intro a e hk;cases a<;>unfold AV.ren at e<;>try(cases e;done)
  rename_i l;cases e;rw[AV.renL_map,aJ]at hl;refine .tup hl fun i z u hz hu=>ih i _ u (by rw[AV.renL_map,aD,hz];rfl) hu z rfl fun k y hh hr=>hk k y (by unfold AV.has;exact AV.hasL_mem hz hh) hr
 |ptr off h=>
  intro a e hk;cases a<;>unfold AV.ren at e<;>try(cases e;done)
  cases e;exact .ptr _ (hk _ _ (by simp[AV.has]) h)
 |hd h h1=>
  intro a e hk;cases a<;>unfold AV.ren at e<;>try(cases e;done)
  cases e;exact .hd (hk _ _ (by simp[AV.has]) h) h1
 |ph h h0 h1=>
  intro a e hk;cases a<;>unfold AV.ren at e<;>try(cases e;done)
  cases e;exact .ph (hk _ _ (by simp[AV.has]) h) h0 h1
 |sl hc hm hn hs g hr hg _=>
  intro a e hk;cases a<;>unfold AV.ren at e<;>try(cases e;done)
  cases e;exact .sl hc hm hn hs g hr hg
 |rp j ho g hr hg _=>
  intro a e hk;cases a<;>unfold AV.ren at e<;>try(cases e;done)
  cases e;exact .rp _ ho g hr hg
 |re sz i j h=>
  intro a e hk;cases a<;>unfold AV.ren at e<;>try(cases e;done)
  cases e;exact .re _ _ _ (hk _ _ (by simp[AV.has]) h)
 |clo f hl _ ih=>
  intro a e hk;cases a<;>unfold AV.ren at e<;>try(cases e;done)
  rename_i f' l;cases e;rw[AV.renL_map,aJ]at hl;refine .clo _ hl fun i z u hz hu=>ih i _ u (by rw[AV.renL_map,aD,hz];rfl) hu z rfl fun k y hh hr=>hk k y (by unfold AV.has;exact AV.hasL_mem hz hh) hr
 |mth f hl _ ih=>
  intro a e hk;cases a<;>unfold AV.ren at e<;>try(cases e;done)
  rename_i f' l;cases e;rw[AV.renL_map,aJ]at hl;refine .mth _ hl fun i z u hz hu=>ih i _ u (by rw[AV.renL_map,aD,hz];rfl) hu z rfl fun k y hh hr=>hk k y (by unfold AV.has;exact AV.hasL_mem hz hh) hr
theorem dR.mapR {pub:cI}{w:World}{r r':cF}{h:Option Value}{e:cC}(he:dR pub w r h e) (f:AV→AV) (fe:cC) (hf:∀x v,bS pub w r x v→bS pub w r' (f x) v)
  (hfe:fe=match e with
   |.blk t cs=>.blk t (cs.map f)
   |.hrow t sz n cs=>.hrow t sz n (cs.map f)
   |.pool t es outs=>.pool t es (outs.map fun p=>(p.1,f p.2))
   |.iter x a b=>.iter (f x) a b
   |e=>e):dR pub w r' h fe:=by
 have vs:∀{l:List AV}{us:List Value},bO pub w r l us→bO pub w r' (l.map f) us:=fun {l us} hl=>⟨by rw[aJ];exact hl.len,fun i z u hz hu=>by
  rw[aD]at hz;cases hx:l[i]? with
  |none=>rw[hx]at hz;cases hz
  |some x=>rw[hx]at hz;cases hz;exact hf _ _ (hl.at_ i x u hx hu)⟩
 subst hfe;cases he with
 |dead=>exact .dead
 |blk hb hc hp=>exact .blk hb (vs hc) hp
 |row ho hc hs hp=>exact .row ho hc hs hp
 |tip ho hc hs hp=>exact .tip ho hc hs hp
 |map hb hl hk hv hp hbo=>exact .map hb hl hk hv hp hbo
 |hrow ho hc hp=>exact .hrow ho (vs hc) hp
 |iter hb hx hp=>exact .iter hb (hf _ _ hx) hp
 |@pool _ t es outs b ms inner hb hl hn hborn hk1 hout hin hie hnd hp=>
  refine .pool hb hl hn hborn hk1 (fun i x hx=>?_) (fun i e vs m ho=>hin i e vs m fun x hx=>ho _ (aW.2 ⟨(i,x),hx,rfl⟩)) (fun i e vs j d ho=>hie i e vs j d fun x hx=>ho _ (aW.2 ⟨(i,x),hx,rfl⟩)) hnd hp;obtain⟨⟨i',x'⟩,hx',e⟩:=aW.1 hx;cases e;exact⟨(hout _ _ hx').1,fun m hm=>hf _ _ ((hout _ _ hx').2 m hm)⟩
theorem dR.ren {pub:cI}{w:World}{r r':cF}{h:Option Value}{e:cC}{s:List Nat}{base:Nat}(he:dR pub w r h e) (hk:∀k y,r k=some y→r' (dY s base k)=some y):dR pub w r' h (e.ren s base):=
 he.mapR (AV.ren s base) _ (fun _ _ h=>h.ren hk) (by cases e<;>simp only[cC.ren,AV.renL_map])
def cC.turns:cC→Bool
 |.row ..=>true
 |.tip ..=>true
 |.hrow ..=>true
 |.pool ..=>true
 |_=>false
theorem dR.turns {pub:cI}{w:World}{r:cF}{y:Value}{e:cC}(he:dR pub w r (some y) e) (h:e.turns=false):agB y=false:=by
 cases he<;>first|rfl|cases h
def zN (n:Nat):cC→Bool
 |.blk _ cs=>AV.bndL n cs
 |.hrow _ _ _ cs=>AV.bndL n cs
 |.pool _ _ outs=>AV.bndL n (outs.map (·.2))
 |.iter x _ _=>AV.bnd n x
 |_=>true
theorem dR.congr {pub:cI}{w:World}{r r':cF}{h:Option Value}{e:cC}{n:Nat}(he:dR pub w r h e) (hb:zN n e=true) (hk:∀k,k < n→r' k=r k):dR pub w r' h e:=by
 have one:∀{x:AV}{v:Value},x.bnd n=true→bS pub w r x v→bS pub w r' x v:=fun {x v} hx hv=>hv.congr fun k hh=>hk k (AV.bnd_has _ hx hh)
 have vs:∀{l:List AV}{us:List Value},AV.bndL n l=true→bO pub w r l us→bO pub w r' l us:=fun {l us} hl hv=>hv.congr fun k hh=>hk k (AV.bndL_has _ hl hh)
 cases he with
 |dead=>exact .dead
 |blk hb1 hc hp=>exact .blk hb1 (vs hb hc) hp
 |row ho hc hs hp=>exact .row ho hc hs hp
 |tip ho hc hs hp=>exact .tip ho hc hs hp
 |map hb1 hl hk hv hp hbo=>exact .map hb1 hl hk hv hp hbo
 |hrow ho hc hp=>exact .hrow ho (vs hb hc) hp
 |iter hb1 hx hp=>exact .iter hb1 (one hb hx) hp
 |@pool _ t es outs b ms inner hb1 hl hn hborn hk1 hout hin hie hnd hp=>
  refine .pool hb1 hl hn hborn hk1 (fun i x hx=>⟨(hout _ _ hx).1,fun m hm=>one ?_ ((hout _ _ hx).2 m hm)⟩) hin hie hnd hp;obtain⟨q,hq⟩:=aU hx;refine AV.bndL_mem (l:=outs.map fun(p:Nat×AV)=>p.2) (i:=q) ?_ (show zN n (.pool t es outs)=true from hb);rw[aD,hq];rfl
theorem dR.unren {pub:cI}{w:World}{r r':cF}{h:Option Value}{e:cC}{s:List Nat}{base n:Nat}(he:dR pub w r' h (e.ren s base)) (hb:zN n e=true) (hk:∀k y,k < n→r' (dY s base k)=some y→r k=some y):dR pub w r h e:=by
 have one:∀{x:AV}{v:Value},x.bnd n=true→bS pub w r' (x.ren s base) v→bS pub w r x v:=fun {x v} hx hv=>hv.unren x rfl fun k y hh hy=>hk k y (AV.bnd_has _ hx hh) hy
 have vs:∀{l:List AV}{us:List Value},AV.bndL n l=true→bO pub w r' (AV.renL s base l) us→bO pub w r l us:=fun {l us} hl hv=>⟨by have:=hv.len;rw[AV.renL_map,aJ]at this;exact this,fun i x u hx hu=>
  one (AV.bndL_mem hx hl) (hv.at_ i (x.ren s base) u (by rw[AV.renL_map,aD,hx];rfl) hu)⟩
 cases e with
 |dead=>cases he;exact .dead
 |blk t cs=>cases he with|blk hb1 hc hp=>exact .blk hb1 (vs hb hc) hp
 |row t sz xs=>cases he with|row ho hc hs hp=>exact .row ho hc hs hp
 |tip t sz xs=>cases he with|tip ho hc hs hp=>exact .tip ho hc hs hp
 |map t es=>cases he with|map hb1 hl hk hv hp hbo=>exact .map hb1 hl hk hv hp hbo
 |hrow t sz n cs=>cases he with|hrow ho hc hp=>exact .hrow ho (vs hb hc) hp
 |iter x a b=>cases he with|iter hb1 hx hp=>exact .iter hb1 (one hb hx) hp
 |pool t es outs=>
  cases he with
  |pool hb1 hl hn hborn hk1 hout hin hie hnd hp=>
   have go:∀i,(∀x,(i,x)∉outs)→∀x,(i,x)∉outs.map fun p=>(p.1,AV.ren s base p.2):=fun i ho x hx=>by
    obtain⟨⟨i',x'⟩,hx',e⟩:=aW.1 hx;cases e;exact ho _ hx'
   refine .pool hb1 hl hn hborn hk1 (fun i x hx=>?_) (fun i e vs m ho=>hin i e vs m (go i ho)) (fun i e vs j d ho=>hie i e vs j d (go i ho)) hnd hp;have hm:(i,AV.ren s base x)∈outs.map fun p=>(p.1,AV.ren s base p.2):=aW.2 ⟨(i,x),hx,rfl⟩
   refine⟨(hout _ _ hm).1,fun m hmm=>one ?_ ((hout _ _ hm).2 m hmm)⟩;obtain⟨q,hq⟩:=aU hx;refine AV.bndL_mem (l:=outs.map fun(p:Nat×AV)=>p.2) (i:=q) ?_ (show zN n (.pool t es outs)=true from hb);rw[aD,hq];rfl
theorem pZ {α:Type}(f:α→List Nat):∀(l:List α),(l.flatMap f).Nodup→∀(i j:Nat) (x y:α),i≠j→l[i]?=some x→l[j]?=some y→∀b∈f x,b∉f y
 |[],_,i,j,x,y,_,h,_=>by simp at h
 |z :: l,hn,i,j,x,y,hij,hx,hy=>by
  rw[List.flatMap_cons,List.nodup_append]at hn;obtain⟨h1,h2,h3⟩:=hn;have far:∀(q:Nat) (u:α),l[q]?=some u→∀b∈f z,b∉f u:=fun q u hu b hb hb'=>h3 b hb b (List.mem_flatMap.2 ⟨u,aC hu,hb'⟩) rfl
  cases i with
  |zero=>
   cases j with
   |zero=>exact absurd rfl hij
   |succ j=>
    simp only[List.getElem?_cons_zero,bD,List.getElem?_cons_succ]at hx hy;subst hx;exact far j y hy
  |succ i=>
   cases j with
   |zero=>
    simp only[List.getElem?_cons_zero,bD,List.getElem?_cons_succ]at hx hy;subst hy;exact fun b hb hb'=>far i x hx b hb' hb
   |succ j=>
    simp only[List.getElem?_cons_succ]at hx hy;exact pZ f l h2 i j x y (by omega) hx hy
theorem zY {α:Type}(f:List α→List Nat) (h0:f []=[]) (l:List (List α)) (i:Nat):((l.set i []).flatMap f).Sublist (l.flatMap f):=by
 induction l generalizing i with
 |nil=>simp
 |cons z l ih=>
  cases i with
  |zero=>simp only[List.set_cons_zero,List.flatMap_cons,h0,List.nil_append];exact List.sublist_append_right _ _
  |succ i=>simp only[List.set_cons_succ,List.flatMap_cons];exact(List.Sublist.refl _).append (ih i)
theorem fU {b b':Nat}{inner:List (List Value)}:b'∈bY (cN b inner)↔b'=b∨∃(i:Nat) (vs:List Value) (v:Value),inner[i]?=some vs∧v∈vs∧b'∈mN v:=by
 rw[dA,List.mem_cons];refine or_congr Iff.rfl ⟨fun h=>?_,fun⟨i,vs,v,h1,h2,h3⟩=>List.mem_flatMap.2 ⟨vs,aC h1,List.mem_flatMap.2 ⟨v,h2,h3⟩⟩⟩;obtain⟨vs,hvs,h⟩:=List.mem_flatMap.1 h;obtain⟨v,hv,h⟩:=List.mem_flatMap.1 h;obtain⟨i,hi⟩:=aU hvs;exact⟨i,vs,v,hi,hv,h⟩
theorem bS.super {pub:cI}{w:World}{r r':cF}{k:Nat}{a a':Array Value}{x:AV}{v:Value}(h:bS pub w r x v):r k=some (.tuple a)→r' k=some (.tuple a')→a'[0]?=a[0]?→(∀q y,q≠k→r q=some y→r' q=some y)→bS pub w r' x v:=by
 induction h with
 |any x=>exact fun _ _ _ _=>.any x
 |bl b=>exact fun _ _ _ _=>.bl b
 |int k x=>exact fun _ _ _ _=>.int k x
 |str s=>exact fun _ _ _ _=>.str s
 |v x h=>exact fun _ _ _ _=>.v x h
 |agg hl _ ih=>exact fun h1 h2 h3 h4=>.agg hl fun i x u hx hu=>ih i x u hx hu h1 h2 h3 h4
 |tup hl _ ih=>exact fun h1 h2 h3 h4=>.tup hl fun i x u hx hu=>ih i x u hx hu h1 h2 h3 h4
 |ptr off h=>exact fun h1 _ _ h4=>.ptr off (h4 _ _ (by rintro rfl;rw[h]at h1;cases h1) h)
 |hd h hh=>exact fun h1 _ _ h4=>.hd (h4 _ _ (by rintro rfl;rw[h]at h1;cases h1;cases hh) h) hh
 |@ph r k1 a1 z h h0 hh=>
  intro h1 h2 h3 h4;by_cases e:k1=k
  ·subst e;rw[h]at h1;cases h1;exact .ph h2 (h3.trans h0) hh
  ·exact .ph (h4 _ _ e h) h0 hh
 |sl hc hm hn hs g hr hg _=>exact fun _ _ _ _=>.sl hc hm hn hs g hr hg
 |rp j ho g hr hg _=>exact fun _ _ _ _=>.rp j ho g hr hg
 |re sz i j h=>exact fun h1 _ _ h4=>.re sz i j (h4 _ _ (by rintro rfl;rw[h]at h1;cases h1) h)
 |clo f hl _ ih=>exact fun h1 h2 h3 h4=>.clo f hl fun i x u hx hu=>ih i x u hx hu h1 h2 h3 h4
 |mth f hl _ ih=>exact fun h1 h2 h3 h4=>.mth f hl fun i x u hx hu=>ih i x u hx hu h1 h2 h3 h4
theorem dR.sub {pub:cI}{w:World}{r r':cF}{h:Option Value}{e:cC}(he:dR pub w r h e) (hf:∀x v,bS pub w r x v→bS pub w r' x v):dR pub w r' h e:=
 he.mapR id e (fun x v h=>hf x v h) (by cases e<;>simp)
section
variable {C:kN}{st:St}{a:Act}{w:World}{r:cF}{pub:cI}
structure N0 (pub:cI) (w:World) (r:cF) (es:List (AV×AV×List cC)) (outs:List (Nat×AV)) (b:Nat) (ms:Array MapEntry) (inner:List (List Value)):Prop where
 hb:w.heap[b]?=some (.map ms ms.size)
 hl:ms.size=es.length
 hn:inner.length=es.length
 hborn:∀(i:Nat) (m:MapEntry),ms[i]?=some m→m.born=i
 hk:bO pub w cM (es.map (·.1)) (ms.toList.map (·.key))
 hout:∀(i:Nat) (x:AV),(i,x)∈outs→inner[i]?=some []∧∀m,ms[i]?=some m→bS pub w r x m.val
 hin:∀(i:Nat) (e:AV×AV×List cC) (vs:List Value) (m:MapEntry),(∀x,(i,x)∉outs)→es[i]?=some e→inner[i]?=some vs→ms[i]?=some m→vs.length=e.2.2.length∧(∀v∈vs,E1 v=false)∧bS pub w (Kn vs) e.2.1 m.val
 hie:∀(i:Nat) (e:AV×AV×List cC) (vs:List Value) (j:Nat) (d:cC),(∀x,(i,x)∉outs)→es[i]?=some e→inner[i]?=some vs→e.2.2[j]?=some d→dR pub w (Kn vs) vs[j]? d
 hnd:(bY (cN b inner)).Nodup
 hp:pub b=0
theorem bM.ent_pool (h:bM C st a w r pub) {k:Nat}{t:TypeId}{es:List (AV×AV×List cC)}{outs:List (Nat×AV)}(hk:st.H[k]?=some (.pool t es outs)):∃b ms inner,r k=some (cN b inner)∧N0 pub w r es outs b ms inner:=by
 have h0:=h.mod.ent k _ hk;generalize hx:r k=x at h0;cases h0 with
 |pool hb hl hn hborn hk hout hin hie hnd hp=>exact⟨_,_,_,rfl,hb,hl,hn,hborn,hk,hout,hin,hie,hnd,hp⟩
theorem dO (b:Nat) (inner:List (List Value)):∃a,cN b inner=.tuple a∧a[0]?=some (.map (some b)):=⟨_,rfl,by simp⟩
theorem xY (h:bM C st a w r pub) {q:Nat}{y:Value}(hy:r q=some y):q < st.H.length:=by
 rcases aL q st.H.length with h1|h1
 ·exact h1
 ·rw[h.mod.none_ q h1]at hy;cases hy
theorem LE (s:List Nat) (base:Nat) (l:List cC):(gY s base l).length=l.length:=by rw[gP,aJ]
theorem bM.focus (h:bM C st a w r pub) {k i:Nat}{t:TypeId}{es:List (AV×AV×List cC)}{outs:List (Nat×AV)}{e:AV×AV×List cC}(hk:st.H[k]?=some (.pool t es outs)) (he:es[i]?=some e) (hno:∀x,(i,x)∉outs) :
  ∃b ms inner r',r k=some (cN b inner)∧N0 pub w r es outs b ms inner∧(∀m,ms[i]?=some m→bS pub w r' (e.2.1.ren [] st.H.length) m.val)∧r' k=some (cN b (inner.set i []))∧(∀q,q≠k→q < st.H.length→r' q=r q)∧
   bM C ⟨st.T,st.H.set k (.pool t es ((i,e.2.1.ren [] st.H.length) :: outs))++gY [] st.H.length e.2.2⟩ a w r' pub:=by
 obtain⟨b,ms,inner,hrk,R⟩:=h.ent_pool hk;have hkl:k < st.H.length:=(aA.1 hk).1;have hil:i < es.length:=(aA.1 he).1;obtain⟨vs,hvs⟩:∃vs,inner[i]?=some vs:=⟨_,aB (by rw[R.hn];exact hil)⟩
 obtain⟨mi,hmi⟩:∃m,ms[i]?=some m:=⟨_,aK (by rw[R.hl];exact hil)⟩
 obtain⟨v1,v2,v3⟩:=R.hin i e vs mi hno he hvs hmi;obtain⟨n,hn⟩:∃n,n=st.H.length:=⟨_,rfl⟩
 let r':cF:=fun q=>if q=k then some (cN b (inner.set i [])) else if n≤q then vs[q - n]? else r q
 have rk:r' k=some (cN b (inner.set i [])):=aF rfl;have rlt:∀q,q≠k→q < n→r' q=r q:=fun q h1 h2=>by show (if q=k then _ else if n≤q then _ else r q)=r q;rw[aE h1,aE (by omega)]
 have rge:∀j,r' (n+j)=vs[j]?:=fun j=>by show (if n+j=k then _ else if n≤n+j then vs[n+j - n]? else _)=_;rw[aE (by omega),aF (by omega),Nat.add_sub_cancel_left]
 have rsome:∀q y,q≠k→r q=some y→r' q=some y:=fun q y h1 hy=>by rw[rlt q h1 (by rw[hn];exact xY h hy)];exact hy
 have hsub:∀x v,bS pub w r x v→bS pub w r' x v:=fun x v hv=>hv.super hrk rk (by simp) rsome
 have hinr:∀j y,Kn vs j=some y→r' (dY [] n j)=some y:=fun j y hy=>(rge j).trans hy
 have hvi:∀v∈vs,∀b'∈bY v,b'∈bY (cN b inner):=fun v hv b' hb'=>fU.2 (.inr ⟨i,vs,v,hvs,hv,by rw[←iM (v2 v hv)];exact hb'⟩)
 have hsi:∀b',b'∈bY (cN b (inner.set i []))→b'∈bY (cN b inner):=fun b' hb'=>by
  rcases fU.1 hb' with h1|⟨j,us,v,h1,h2,h3⟩
  ·exact fU.2 (.inl h1)
  ·by_cases e:i=j
   ·subst e;rw[aP (by rw[R.hn];exact hil)]at h1;cases h1;cases h2
   ·rw[aT e]at h1;exact fU.2 (.inr ⟨j,us,v,h1,h2,h3⟩)
 have hnd:=R.hnd;rw[dA,List.nodup_cons]at hnd;have hfar:∀b',b'∈bY (cN b (inner.set i []))→∀v∈vs,b'∉bY v:=fun b' hb' v hv hb2=>by
  have h2:b'∈vs.flatMap mN:=List.mem_flatMap.2 ⟨v,hv,by rw[←iM (v2 v hv)];exact hb2⟩;rcases fU.1 hb' with rfl|⟨j,us,u,h3,h4,h5⟩
  ·exact hnd.1 (List.mem_flatMap.2 ⟨vs,aC hvs,h2⟩)
  ·by_cases e:i=j
   ·subst e;rw[aP (by rw[R.hn];exact hil)]at h3;cases h3;cases h4
   ·rw[aT e]at h3;exact pZ _ _ hnd.2 i j _ _ e hvs h3 b' h2 (List.mem_flatMap.2 ⟨u,h4,h5⟩)
 have hvn:(vs.flatMap mN).Nodup:=by
  have:(vs.flatMap mN).Sublist (inner.flatMap fun vs=>vs.flatMap mN):=List.sublist_flatten_of_mem (aW.2 ⟨vs,aC hvs,rfl⟩);exact this.nodup hnd.2
 have hr'old:∀q x,r' q=some x→∀b'∈bY x,∃q0 x0,r q0=some x0∧b'∈bY x0:=fun q x hx b' hb'=>by
  by_cases e1:q=k
  ·subst e1;rw[rk]at hx;cases hx;exact⟨_,_,hrk,hsi _ hb'⟩
  ·rcases aL q n with h1|h1
   ·rw[rlt q e1 h1]at hx;exact⟨_,_,hx,hb'⟩
   ·obtain⟨j,rfl⟩:∃j,q=n+j:=⟨q - n,by omega⟩
    rw[rge]at hx;exact⟨_,_,hrk,hvi _ (aC hx) _ hb'⟩
 refine⟨b,ms,inner,r',hrk,R,fun m hm=>?_,rk,fun q h1 h2=>rlt q h1 (by rw[hn];exact h2),⟨⟨fun q e' hq=>?_,fun q hq=>?_,fun p q x y hpq hx hy b' hb' hb2=>?_,h.mod.fresh,h.mod.there,h.mod.glob⟩,fun q x hx b' hb'=>?_,h.fr,fun m=>hsub _ _ (h.slots m),h.defers,h.size,fun q y hy hs=>?_,⟨h.low.1,?_⟩⟩⟩
 ·rw[hmi]at hm;cases hm;rw[←hn];exact v3.ren hinr
 ·rcases aL q n with h1|h1
  ·rw[List.getElem?_append_left (by rw[aZ,←hn];exact h1)]at hq;by_cases e1:k=q
   ·subst e1;rw[aP hkl]at hq;cases hq;rw[rk];refine .pool R.hb R.hl (by rw[aZ];exact R.hn) R.hborn R.hk (fun j x hj=>?_) (fun j e us m ho hej hus hm=>?_) (fun j e us p d ho hej hus hp=>?_) ?_ R.hp
    ·rcases List.mem_cons.1 hj with hj|hj
     ·cases hj;refine⟨aP (by rw[R.hn];exact hil),fun m hm=>?_⟩;rw[hmi]at hm;cases hm;rw[←hn];exact v3.ren hinr
     ·have hji:i≠j:=by rintro rfl;exact hno x hj
      rw[aT hji];exact⟨(R.hout j x hj).1,fun m hm=>hsub _ _ ((R.hout j x hj).2 m hm)⟩
    ·have hji:i≠j:=by rintro rfl;exact ho _ (bC ..)
     rw[aT hji]at hus;exact R.hin j e us m (fun x hx=>ho x (aV _ hx)) hej hus hm
    ·have hji:i≠j:=by rintro rfl;exact ho _ (bC ..)
     rw[aT hji]at hus;exact R.hie j e us p d (fun x hx=>ho x (aV _ hx)) hej hus hp
    ·rw[dA,List.nodup_cons];have hs:=zY (fun vs:List Value=>vs.flatMap mN) rfl inner i;exact⟨fun hb'=>hnd.1 (hs.subset hb'),hs.nodup hnd.2⟩
   ·rw[aT e1]at hq;rw[rlt q (Ne.symm e1) h1];exact(h.mod.ent q e' hq).sub hsub
  ·obtain⟨j,rfl⟩:∃j,q=n+j:=⟨q - n,by omega⟩
   rw[List.getElem?_append_right (by rw[aZ,←hn];exact h1),aZ,←hn,Nat.add_sub_cancel_left,gP,aD]at hq;cases hd:e.2.2[j]? with
   |none=>rw[hd]at hq;cases hq
   |some d=>
    rw[hd]at hq;cases hq;rw[rge];exact(R.hie i e vs j d hno he hvs hd).ren hinr
 ·rw[aM,aZ,LE,←hn]at hq;obtain⟨j,rfl⟩:∃j,q=n+j:=⟨q - n,by omega⟩
  rw[rge,List.getElem?_eq_none (by omega)]
 ·-- apart
  have key:∀p q x y,p≠q→r' p=some x→r' q=some y→b'∈bY x→b'∈bY y→(p=k∨n≤p)→False:=fun p q x y hpq hx hy hb' hb2 hp=>by
   rcases hp with rfl|hp
   ·rw[rk]at hx;cases hx;rcases aL q n with h1|h1
    ·rw[rlt q (Ne.symm hpq) h1]at hy;exact h.mod.disj _ _ _ _ hpq hrk hy b' (hsi _ hb') hb2
    ·obtain⟨j,rfl⟩:∃j,q=n+j:=⟨q - n,by omega⟩
     rw[rge]at hy;exact hfar b' hb' y (aC hy) hb2
   ·obtain⟨j,rfl⟩:∃j,p=n+j:=⟨p - n,by omega⟩
    rw[rge]at hx;have hxm:=aC hx;by_cases e1:q=k
    ·subst e1;rw[rk]at hy;cases hy;exact hfar b' hb2 x hxm hb'
    ·rcases aL q n with h1|h1
     ·rw[rlt q e1 h1]at hy;exact h.mod.disj _ _ _ _ (Ne.symm e1) hrk hy b' (hvi x hxm _ hb') hb2
     ·obtain⟨j2,rfl⟩:∃j,q=n+j:=⟨q - n,by omega⟩
      rw[rge]at hy;refine pZ _ _ hvn j j2 _ _ (by omega) hx hy b' ?_ ?_
      ·rw[←iM (v2 x hxm)];exact hb'
      ·rw[←iM (v2 y (aC hy))];exact hb2
  by_cases e1:p=k∨n≤p
  ·exact key p q x y hpq hx hy hb' hb2 e1
  ·by_cases e2:q=k∨n≤q
   ·exact key q p y x (Ne.symm hpq) hy hx hb2 hb' e2
   ·rw[rlt p (fun h=>e1 (.inl h)) (by omega)]at hx;rw[rlt q (fun h=>e2 (.inl h)) (by omega)]at hy;exact h.mod.disj p q x y hpq hx hy b' hb' hb2
 ·obtain⟨q0,x0,h1,h2⟩:=hr'old q x hx b' hb';exact h.own q0 x0 h1 b' h2
 ·have h1:=h.stab q y hy hs;refine rsome q y ?_ h1;rintro rfl;rw[hrk]at h1;cases h1;cases hs
 ·have:=h.low.2;simp only[aM,aZ];omega
end
inductive XA where
 |t (n:Nat)
 |c (x:AV)
 |g (n:Nat)
def T0:Value→AV
 |.string s=>.str s
 |.int k n=>.int k n
 |.bool b=>.bl b
 |_=>.any
def SI (v:Value):Bool:=match v with
 |.string _=>true
 |.int _ _=>true
 |.bool _=>true
 |_=>false
def I6 (g:Nat):AV:=.rp ((glob g).map T0) 0
def Ex (g:Nat):Bool:=(glob g).all SI && !(glob g).isEmpty
def St.ev (st:St):XA→AV
 |.t n=>dN st.T n
 |.c x=>x
 |.g n=>I6 n
def St.view1 (st:St):AV→AV
 |.hd k=>match st.H[k]? with
  |some (.tip _ sz xs)=>.sl sz xs
  |_=>.hd k
 |x=>x
def St.view (st:St):AV→AV
 |.agg l=>.agg (l.map st.view1)
 |x=>st.view1 x
def St.rd (st:St) (x:XA):AV:=st.view (st.ev x)
structure C6 (m n:Int) (a b:Unit→Prop):Prop where
 yes:m=n→a ()
 no:m≠n→b ()
structure Hz (m n:Int) (a b:Unit→Prop):Prop where
 yes:m < n→a ()
 no:n≤m→b ()
structure Gs (m n:Int) (a b:Unit→Prop):Prop where
 yes:m≤n→a ()
 no:n < m→b ()
structure Ut (s t:bF) (a b:Unit→Prop):Prop where
 yes:s=t→a ()
 no:s≠t→b ()
structure QL (s t:bF) (a b:Unit→Prop):Prop where
 yes:Op.bytesLess s.toList t.toList=true→a ()
 no:Op.bytesLess s.toList t.toList=false→b ()
structure Re (s t:bF) (a b:Unit→Prop):Prop where
 yes:Op.bytesLess s.toList t.toList=true∨s=t→a ()
 no:¬(Op.bytesLess s.toList t.toList=true∨s=t)→b ()
structure Uw (s t:Bool) (a b:Unit→Prop):Prop where
 yes:s=t→a ()
 no:s≠t→b ()
def sW (b:Bool) (p q:Unit→Prop):Prop:=if b=true then p () else q ()
structure Am (k:IntKind) (m n:Int) (K:Int→Prop):Prop where
 rest:∀z,z=k.wrap (m+n)→K z
structure Ok (k:IntKind) (m n:Int) (K:Int→Prop):Prop where
 rest:∀z,z=k.wrap (m - n)→K z
structure LH (k:IntKind) (m n:Int) (K:Int→Prop):Prop where
 rest:∀z,z=k.wrap (m * n)→K z
structure Jl (k:IntKind) (m n:Int) (K:Int→Prop):Prop where
 owed:n≠0∧k.wrap (m.tdiv n)=m.tdiv n
 rest:∀z,z=m.tdiv n→K z
structure atM (m n:Int) (K:Int→Prop):Prop where
 owed:n≠0
 rest:∀z,z=m.tmod n→K z
structure TY (k:IntKind) (m:Int) (K:Int→Prop):Prop where
 rest:∀z,z=k.wrap (-m)→K z
structure TF (k:IntKind) (m:Int) (K:Prop):Prop where
 owed:k.wrap m=m
 rest:K
structure RH (k:IntKind) (m n:Int) (K:Int→Prop):Prop where
 rest:∀z,z=k.wrap (m+n)→K z
structure JX (k:IntKind) (m n:Int) (K:Int→Prop):Prop where
 rest:∀z,z=k.wrap (m - n)→K z
structure R1 (k:IntKind) (m n:Int) (K:Int→Prop):Prop where
 rest:∀z,z=k.wrap (m * n)→K z
structure T4 (k:IntKind) (m:Int) (K:Int→Prop):Prop where
 rest:∀z,z=k.wrap m→K z
structure Pf (m n:Int) (K:Int→Prop):Prop where
 rest:∀z,z=min m n→K z
structure SB (m n:Int) (K:Int→Prop):Prop where
 rest:∀z,z=max m n→K z
structure Of (xs:List AV) (a b:Unit→Prop):Prop where
 yes:xs=[]→a ()
 no:b ()
structure Lt (s t:bF) (K:bF→Prop):Prop where
 owed:s.size+t.size≤maxLen
 rest:∀u,u=s++t→K u
structure Np (xs:List AV) (K:Int→Prop):Prop where
 rest:∀z:Int,z=xs.length→K z
structure Mf (es:List (AV×AV)) (K:Int→Prop):Prop where
 rest:∀z:Int,z=es.length→K z
structure PN (s:bF) (K:Int→Prop):Prop where
 rest:∀z:Int,z=s.size→K z
structure pI (xs ys:List AV) (bytes:Nat) (K:List AV→Prop):Prop where
 owed:xs.length+ys.length≤maxLen∧(xs.length+ys.length) * bytes≤140737488355328
 rest:∀zs,zs=xs++ys→K zs
structure Ma (ys:List AV) (bytes:Nat) (K:Unit→Prop):Prop where
 owed:ys.length≤maxLen∧ys.length * bytes≤140737488355328
 rest:K ()
structure Hi (xs:List AV) (lo hi:Option Int) (K:List AV→Prop):Prop where
 owed:0≤lo.getD 0∧lo.getD 0≤hi.getD xs.length∧hi.getD xs.length≤xs.length
 rest:∀ys,ys=(xs.take (hi.getD xs.length).toNat).drop (lo.getD 0).toNat→K ys
structure TK (xs:List AV) (lo:Option Int) (K1 K2:List AV→Prop):Prop where
 out:Hi xs lo none K1∨(0≤lo.getD 0∧lo.getD 0≤xs.length∧∀ys,ys=xs.drop (lo.getD 0).toNat→K2 ys)
structure OC (s:bF) (lo hi:Option Int) (K:bF→Prop):Prop where
 owed:0≤lo.getD 0∧lo.getD 0≤hi.getD s.size∧hi.getD s.size≤s.size
 rest:∀u,u=s.extract (lo.getD 0).toNat (hi.getD s.size).toNat→K u
structure Ps (xs:List AV) (m:Nat) (y:AV) (K:List AV→Prop):Prop where
 rest:∀zs,zs=xs.set m y→K zs
def xV:List AV→List AV→Option Bool
 |[],[]=>some true
 |.int j x :: l,.int k y :: m=>if j=k then (xV l m).map ((x == y) && ·) else none
 |.str x :: l,.str y :: m=>(xV l m).map ((x == y) && ·)
 |.bl x :: l,.bl y :: m=>(xV l m).map ((x == y) && ·)
 |_,_=>none
def gE:AV→AV→Option Bool
 |.int j x,.int k y=>if j=k then some (x == y) else none
 |.str x,.str y=>some (x == y)
 |.agg l,.agg m=>xV l m
 |_,_=>none
def fY (key:AV):List (AV×AV)→Nat→Option (Option Nat)
 |[],_=>some none
 |e :: es,i=>match gE key e.1 with
  |some true=>some (some i)
  |some false=>fY key es (i+1)
  |none=>none
def gZ:List Nat→List AV→List AV→Bool
 |[],[],[]=>true
 |0 :: ks,.int k _ :: l,.int j _ :: m=>decide (k=j) && gZ ks l m
 |1 :: ks,.str _ :: l,.str _ :: m=>gZ ks l m
 |2 :: ks,.bl _ :: l,.bl _ :: m=>gZ ks l m
 |_,_,_=>false
def iP:List AV→List AV→Prop
 |.int _ x :: l,.int _ y :: m=>x=y∧iP l m
 |.str x :: l,.str y :: m=>x=y∧iP l m
 |.bl x :: l,.bl y :: m=>x=y∧iP l m
 |_,_=>True
structure Vr (p:Prop) (a b:Unit→Prop):Prop where
 yes:p→a ()
 no:¬p→b ()
def pX:Nat→Int→(Nat→Prop)→Prop
 |0,_,K=>K 0
 |1,_,K=>K 0
 |n+2,i,K=>C6 i (Int.ofNat (n+1)) (fun _=>K (n+1)) (fun _=>pX (n+1) i K)
structure Gl (n:Nat) (i:Int) (K:Prop):Prop where
 owed:0≤i∧i < n
 rest:K
structure O0 (n:Nat) (i:Int) (K:Nat→Prop):Prop where
 owed:0≤i∧i < n
 rest:K i.toNat
structure M9 (op:BinOp) (k:IntKind) (m n:Int) (K:Int→Prop):Prop where
 rest:∀z,z=k.wrap (match op with
  |.and=>(BitVec.ofInt k.bits m &&& BitVec.ofInt k.bits n)
  |.or=>(BitVec.ofInt k.bits m ||| BitVec.ofInt k.bits n)
  |.xor=>(BitVec.ofInt k.bits m ^^^ BitVec.ofInt k.bits n)
  |_=>(BitVec.ofInt k.bits m &&& ~~~ BitVec.ofInt k.bits n)).toNat→K z
structure Wf (op:BinOp) (k:IntKind) (m n:Int) (K:Int→Prop):Prop where
 owed:0≤n
 rest:∀z,z=(match op with
  |.shl=>k.wrap (m * 2 ^ (min n.toNat k.bits))
  |_=>m.fdiv (2 ^ (min n.toNat k.bits)))→K z
def nX (key:AV):List AV→Nat→Option (Option Nat)
 |[],_=>some none
 |e :: es,i=>match gE key e with
  |some true=>some (some i)
  |some false=>nX key es (i+1)
  |none=>none
abbrev Qh:=AV×AV×List cC
structure QU (key:AV) (es:List Qh) (outs:List (Nat×AV)) (Kin:Nat→AV→List cC→Prop) (Kout:AV→Prop) (Kno:Unit→Prop):Prop where
 out:(∃i k' hd l,nX key (es.map (·.1)) 0=some (some i)∧es[i]?=some (k',hd,l)∧(∀x,(i,x)∉outs)∧Kin i hd l)∨(∃i x,nX key (es.map (·.1)) 0=some (some i)∧(i,x)∈outs∧Kout x)∨(nX key (es.map (·.1)) 0=some none∧Kno ())
structure Qd (n c:Int) (bytes:Nat) (x:AV) (K:List AV→Prop):Prop where
 owed:0≤n∧n≤c∧c≤maxLen∧bytes * c≤140737488355328
 rest:∀zs,zs=List.replicate n.toNat x→K zs
structure Rf (es:List Qh) (K:Int→Prop):Prop where
 rest:∀z:Int,z=es.length→K z
structure Sv (key:AV) (es:List Qh) (outs:List (Nat×AV)) (v:AV) (K:List Qh→List (Nat×AV)→Prop):Prop where
 out:(nX key (es.map (·.1)) 0=some none∧∀es' n,es'=es++[(key,.any,[])]→n=es.length→K es' ((n,v) :: outs))∨
  (∃i x rest,nX key (es.map (·.1)) 0=some (some i)∧outs=(i,x) :: rest∧(∀x,(i,x)∉rest)∧K es ((i,v) :: rest))
structure Q2 (es:List Qh) (outs:List (Nat×AV)) (since:Nat) (seen:List Nat) (K:AV→AV→Prop):Prop where
 out:∃i key x,since=es.length∧seen.getLast?=some i∧(es[i]?).map (·.1)=some key∧(i,x)∈outs∧K key x
structure S1 (es:List Qh) (since:Nat) (seen:List Nat) (K:Nat→AV→AV→List cC→Prop) (D:Unit→Prop):Prop where
 owed:since=es.length
 next:∀i k hd l,es[i]?=some (k,hd,l)→i∉seen→K i k hd l
 over:(∀i,i < es.length→i∈seen)→D ()
structure QM (es:List (AV×AV)) (since:Nat) (seen:List Nat) (K:Nat→AV→AV→Prop) (D:Unit→Prop):Prop where
 owed:since=es.length
 next:∀i k v,es[i]?=some (k,v)→i∉seen→K i k v
 over:(∀i,i < es.length→i∈seen)→D ()
structure Qs (es:List (AV×AV)) (since:Nat) (seen:List Nat) (K:AV→AV→Prop):Prop where
 out:∃i key v,since=es.length∧seen.getLast?=some i∧es[i]?=some (key,v)∧K key v
structure Ql (es:List (AV×AV)) (i:Nat) (e:AV×AV) (K:List (AV×AV)→Prop):Prop where
 rest:∀z,z=es.set i e→K z
structure OT (es:List (AV×AV)) (e:AV×AV) (K:List (AV×AV)→Prop):Prop where
 rest:∀z,z=es++[e]→K z
structure TE (es:List (AV×AV)) (i:Nat) (K:List (AV×AV)→Prop):Prop where
 rest:∀z,z=es.eraseIdx i→K z
inductive GV where
 |some (k:IntKind)
 |none
 |wide (ks:List Nat)
def mK:GV→AV→Bool
 |.some k,.int j _=>decide (j=k)
 |.none,.str _=>true
 |.wide ks,.agg l=>gZ ks l l
 |_,_=>false
structure rM (key:AV) (es:List (AV×AV)) (K:Option (Nat×AV)→Prop):Prop where
 out:(∃i k' v,fY key es 0=some (some i)∧es[i]?=some (k',v)∧K (some (i,v)))∨(fY key es 0=some none∧K none)
structure kR (xs:List AV) (x:Int) (K:Nat→AV→Prop):Prop where
 out:∃(m:Nat) (u:AV),x=m∧xs[m]?=some u∧K m u
structure yP (xs:List AV) (x:Int) (K:Nat→Prop):Prop where
 out:∃m:Nat,x=m∧m < xs.length∧K m
structure FX (s:bF) (x:Int) (K:Int→Prop):Prop where
 out:∃m:Nat,x=m∧m < s.size∧∀c,s.data[m]?=some c→∀z:Int,z=c.toNat→K z
def aeT (ns:List Int):bF:=⟨(ns.map fun n=>UInt8.ofNat n.toNat).toArray⟩
def qU:List AV→Option (List Int)
 |[]=>some []
 |.int .u8 n :: l=>(qU l).map (n :: ·)
 |_=>none
structure Q4 (sz:Nat) (xs:List AV) (K:bF→Prop):Prop where
 out:∃ns:List Int,sz=1∧qU xs=some ns∧∀s,s=aeT ns→K s
inductive fT where
 |mov (x:XA)
 |pick (c a b:XA)
 |box (t:TypeId) (x:XA)
 |alloc (t:TypeId) (zs:List AV)
 |bld (zs:List AV) (parts:List (Nat×Nat×XA))
 |bsl (t sz n:Nat) (zs:List AV) (parts:List (Nat×XA))
 |bsp (t sz n:Nat) (zs:List AV) (parts:List (Nat×XA))
 |ld (ag:Bool) (n:Nat) (a:XA)
 |st (n:Nat) (a x:XA)
 |nck (x:XA)
 |ari (op:BinOp) (k:IntKind) (x y:XA)
 |cmp (op:BinOp) (x y:XA)
 |cmb (op:BinOp) (x y:XA)
 |cmn (ne:Bool) (x:XA)
 |cmf (ne:Bool) (x:XA)
 |cmi (ne:Bool) (x:XA)
 |not (x:XA)
 |neg (k:IntKind) (x:XA)
 |cvi (k:IntKind) (x:XA)
 |cvs (x:XA)
 |b2s (x:XA)
 |fad (off:Nat) (x:XA)
 |fld (ag:Bool) (off n:Nat) (x:XA)
 |iad (sz:Nat) (x i:XA)
 |idx (x i:XA)
 |lens (x:XA)
 |lenl (x:XA)
 |lenm (x:XA)
 |app (t ty e sz bytes:Nat) (x y:XA)
 |sli (sz:Nat) (x:XA) (lo hi:Option XA)
 |sls (x:XA) (lo hi:Option XA)
 |slt (sz:Nat) (x lo:XA)
 |ext (x:XA) (i:Nat)
 |call (f:Nat) (args:List XA)
 |cav (x:XA) (args:List XA)
 |mkf (f:Nat) (caps:List XA)
 |mkn (f:Nat) (caps:List XA)
 |mkm (t:TypeId)
 |mnx (mx:Bool) (x y:XA)
 |nils (ne:Bool) (x:XA)
 |nilm (ne:Bool) (x:XA)
 |lkp (ky:GV) (ok:Bool) (z:AV) (m key:XA)
 |upd (ky:GV) (m key v:XA)
 |del (ky:GV) (m key:XA)
 |plk (ky:GV) (ok:Bool) (z:AV) (m key:XA)
 |pup (ky:GV) (m key v:XA)
 |rng (x:XA)
 |nxt (x:XA)
 |ent (x:XA)
 |cms (ne:Bool) (ks:List Nat) (x y:XA)
 |aix (ag:Bool) (sz n:Nat) (x i:XA)
 |aia (sz n:Nat) (x i:XA)
 |mks (t sz bytes:Nat) (zs:List AV) (len cap:XA)
 |shf (op:BinOp) (k:IntKind) (x y:XA)
 |mkr (t:TypeId) (x:XA)
 |mkp (t:TypeId)
 |bad
 |mkq (t:TypeId) (x:XA)
structure hU where
 d:Option Nat
 g:Option (Nat×Bool)
 op:fT
def gV (l m:List AV) (off:Nat):List AV:=l.take off++m++l.drop (off+m.length)
def pD:List AV→List (Nat×List AV)→List AV
 |zs,[]=>zs
 |zs,(off,m) :: r=>pD (gV zs m off) r
def nA (P:bG) (f:Nat):Bool:=
 match P.funcs[f]? with
 | some fn => fn.name != "runtime.NumGoroutine" && fn.body.isSome
 |none=>false
structure cL (P:bG) (f:Nat):Prop where
 h:nA P f=true
structure fZ (P:bG) (keep:List Nat) (f:Nat) (args:List AV) (st:St) (K:AV→St→Prop):Prop where
 out:∀(C:kN) (a:Act) (w:World) (r:cF) (pub:cI) (vals:Array Value),bM C st a w r pub→bO pub w r args vals.toList →
  Calls P f vals w fun e w'=>∃v x st' r' pub',e=.returned v∧bS pub' w' r' x v∧K x st'∧bM C st' a w' r' pub'∧lV pub w pub' w'∧
   ∀k∈keep,r' k=r k∧∀y,r k=some y→∀b∈bY y,w'.heap[b]?=w.heap[b]?
def vZ:Nat→List AV→List AV
 |0,_=>[]
 |n+1,l=>l++vZ n l
def cO (sz:Nat) (l:List AV):AV:=if sz=1 then l.headD .any else .agg l
def lW:List AV→List (Nat×AV)→List AV
 |xs,[]=>xs
 |xs,(i,x) :: r=>lW (xs.set i x) r
def rY (st:St) (lo:Option XA) (K:Option Int→Prop):Prop:=
 match lo with
 |none=>K none
 |some x=>match st.ev x with
  |.int _ n=>K (some n)
  |_=>False
def St.grow (st:St):Option Nat→St
 |none=>⟨st.T,st.H++[.dead]⟩
 |some _=>st
def St.spot (st:St):Option Nat→Nat
 |none=>st.H.length
 |some k=>k
def KZ:Option cC→Bool
 |some .dead=>true
 |_=>false
def St.new (st:St) (al:Option Nat) (e:cC) (K:St→Nat→Prop):Prop:=KZ (st.grow al).H[st.spot al]?=true∧K ⟨st.T,(st.grow al).H.set (st.spot al) e⟩ (st.spot al)
def fT.quiet:fT→Bool
 |.app ..=>false
 |.call ..=>false
 |.cav ..=>false
 |.bsp ..=>false
 |_=>true
def dB (P:bG) (keep:List Nat) (al:Option Nat) (d:Option Nat) (st:St) (K:St→Prop):fT→Prop
 |.mov x=>K (st.put d (st.ev x))
 |.pick c a b=>match st.ev c with
  |.bl t=>sW t (fun _=>K (st.put d (st.ev a))) (fun _=>K (st.put d (st.ev b)))
  |_=>False
 |.box t x=>(st.ev x).flat=true∧st.new al (.blk t (st.ev x).cells) fun st' k=>K (st'.put d (.ptr k 0))
 |.alloc t zs=>st.new al (.blk t zs) fun st' k=>K (st'.put d (.ptr k 0))
 |.bld zs parts=>parts.all (fun p=>(st.ev p.2.2).flat && (st.ev p.2.2).cells.length == p.2.1 && decide (p.1+p.2.1≤zs.length))=true∧
  K (st.put d (.agg (pD zs (parts.map fun p=>(p.1,(st.ev p.2.2).cells)))))
 |.bsl t sz n zs parts=>sW (parts.all fun p=>AV.bndL 0 (st.rd p.2).cells) (fun _=>parts.all (fun p=>(st.rd p.2).flat && AV.bndL 0 (st.rd p.2).cells && (st.rd p.2).cells.length == sz && decide (p.1 < n))=true∧
  st.new al (.row t sz (lW (List.replicate n (cO sz zs)) (parts.map fun p=>(p.1,cO sz (st.rd p.2).cells)))) fun st' k=>K (st'.put d (.hd k))) (fun _=>
  parts.all (fun p=>(st.rd p.2).flat && (st.rd p.2).cells.length == sz && decide (p.1 < n))=true∧
  st.new al (.hrow t sz n (pD (vZ n zs) (parts.map fun p=>(p.1 * sz,(st.rd p.2).cells)))) fun st' k=>K (st'.put d (.hd k)))
 |.bsp t sz n zs parts=>parts.all (fun p=>(st.rd p.2).flat && AV.bndL 0 (st.rd p.2).cells && (st.rd p.2).cells.length == sz && decide (p.1 < n))=true∧
  st.new al (.tip t sz (lW (List.replicate n (cO sz zs)) (parts.map fun p=>(p.1,cO sz (st.rd p.2).cells)))) fun st' _=>K (st'.put d (.sl sz (lW (List.replicate n (cO sz zs)) (parts.map fun p=>(p.1,cO sz (st.rd p.2).cells)))))
 |.ld ag n a=>match st.ev a with
  |.ptr k off=>match st.H[k]? with
   |some (.blk _ cs)=>if ag then off+n≤cs.length∧K (st.put d (.agg ((cs.drop off).take n))) else match cs[off]? with
    |some x=>K (st.put d x)
    |none=>False
   |_=>False
  |.rp cs j=>if ag then j+n≤cs.length∧K (st.put d (.agg ((cs.drop j).take n))) else match cs[j]? with
   |some x=>K (st.put d x)
   |none=>False
  |.re k sz i j=>match st.H[k]? with
   |some (.row _ sz' xs)=>sz'=sz∧kR xs i fun _ u=>if ag then j+n≤u.cells.length∧K (st.put d (.agg ((u.cells.drop j).take n))) else match u.cells[j]? with
    |some x=>K (st.put d x)
    |none=>False
   |some (.hrow _ sz' _ cs)=>sz'=sz∧if ag then i * sz+j+n≤cs.length∧K (st.put d (.agg ((cs.drop (i * sz+j)).take n))) else match cs[i * sz+j]? with
    |some x=>K (st.put d x)
    |none=>False
   |_=>False
  |_=>False
 |.st n a x=>(st.ev x).flat=true∧(st.ev x).cells.length=n∧match st.ev a with
  |.ptr k off=>keep.contains k=false∧match st.H[k]? with
   |some (.blk t cs)=>off+n≤cs.length∧K (St.put ⟨st.T,st.H.set k (.blk t (gV cs (st.ev x).cells off))⟩ d .any)
   |_=>False
  |.re k sz i j=>keep.contains k=false∧match st.H[k]? with
   |some (.row t sz' xs)=>sz'=sz∧(st.rd x).flat=true∧AV.bndL 0 (st.rd x).cells=true∧kR xs i fun m u=>j+n≤sz∧Ps xs m (cO sz (gV u.cells (st.rd x).cells j)) fun zs=>K (St.put ⟨st.T,st.H.set k (.row t sz zs)⟩ d .any)
   |some (.hrow t sz' n' cs)=>sz'=sz∧0 < n∧j+n≤sz∧i * sz+j+n≤cs.length∧K (St.put ⟨st.T,st.H.set k (.hrow t sz n' (gV cs (st.ev x).cells (i * sz+j)))⟩ d .any)
   |_=>False
  |_=>False
 |.nck x=>match st.ev x with
  |.ptr k o=>K (st.put d (.ptr k o))
  |.rp cs j=>K (st.put d (.rp cs j))
  |.re k sz i j=>K (st.put d (.re k sz i j))
  |.clo f l=>K (st.put d (.clo f l))
  |.mth f l=>K (st.put d (.mth f l))
  |_=>False
 |.ari op k x y=>match st.ev x,st.ev y with
  |.int k1 m,.int k2 n=>k1=k∧k2=k∧match op with
   |.add=>match k with
    |.i64=>Am k m n fun z=>K (st.put d (.int k z))
    |k=>RH k m n fun z=>K (st.put d (.int k z))
   |.sub=>match k with
    |.i64=>Ok k m n fun z=>K (st.put d (.int k z))
    |k=>JX k m n fun z=>K (st.put d (.int k z))
   |.mul=>match k with
    |.i64=>LH k m n fun z=>K (st.put d (.int k z))
    |k=>R1 k m n fun z=>K (st.put d (.int k z))
   |.quo=>Jl k m n fun z=>K (st.put d (.int k z))
   |.rem=>atM m n fun z=>K (st.put d (.int k z))
   |.and=>M9 .and k m n fun z=>K (st.put d (.int k z))
   |.or=>M9 .or k m n fun z=>K (st.put d (.int k z))
   |.xor=>M9 .xor k m n fun z=>K (st.put d (.int k z))
   |.andNot=>M9 .andNot k m n fun z=>K (st.put d (.int k z))
   |_=>False
  |.str s,.str t=>match op with
   |.add=>Lt s t fun u=>K (st.put d (.str u))
   |_=>False
  |_,_=>False
 |.cmp op x y=>match st.ev x,st.ev y with
  |.int k1 m,.int k2 n=>k1=k2∧match op with
   |.eql=>C6 m n (fun _=>K (st.put d (.bl true))) (fun _=>K (st.put d (.bl false)))
   |.neq=>C6 m n (fun _=>K (st.put d (.bl false))) (fun _=>K (st.put d (.bl true)))
   |.lss=>Hz m n (fun _=>K (st.put d (.bl true))) (fun _=>K (st.put d (.bl false)))
   |.leq=>Gs m n (fun _=>K (st.put d (.bl true))) (fun _=>K (st.put d (.bl false)))
   |.gtr=>Hz n m (fun _=>K (st.put d (.bl true))) (fun _=>K (st.put d (.bl false)))
   |.geq=>Gs n m (fun _=>K (st.put d (.bl true))) (fun _=>K (st.put d (.bl false)))
   |_=>False
  |.str s,.str t=>match op with
   |.eql=>Ut s t (fun _=>K (st.put d (.bl true))) (fun _=>K (st.put d (.bl false)))
   |.neq=>Ut s t (fun _=>K (st.put d (.bl false))) (fun _=>K (st.put d (.bl true)))
   |.lss=>QL s t (fun _=>K (st.put d (.bl true))) (fun _=>K (st.put d (.bl false)))
   |.geq=>QL s t (fun _=>K (st.put d (.bl false))) (fun _=>K (st.put d (.bl true)))
   |.leq=>Re s t (fun _=>K (st.put d (.bl true))) (fun _=>K (st.put d (.bl false)))
   |.gtr=>Re s t (fun _=>K (st.put d (.bl false))) (fun _=>K (st.put d (.bl true)))
   |_=>False
  |_,_=>False
 |.cmb op x y=>match st.ev x,st.ev y with
  |.bl s,.bl t=>match op with
   |.eql=>Uw s t (fun _=>K (st.put d (.bl true))) (fun _=>K (st.put d (.bl false)))
   |.neq=>Uw s t (fun _=>K (st.put d (.bl false))) (fun _=>K (st.put d (.bl true)))
   |_=>False
  |_,_=>False
 |.cmn ne x=>match st.ev x with
  |.ptr _ _=>K (st.put d (.bl ne))
  |.rp _ _=>K (st.put d (.bl ne))
  |.v (.pointer none)=>K (st.put d (.bl !ne))
  |_=>False
 |.cmi ne x=>match st.ev x with
  |.v .nilIface=>K (st.put d (.bl !ne))
  |_=>False
 |.cmf ne x=>match st.ev x with
  |.clo _ _=>K (st.put d (.bl ne))
  |.mth _ _=>K (st.put d (.bl ne))
  |.v .nilFunc=>K (st.put d (.bl !ne))
  |_=>False
 |.not x=>match st.ev x with
  |.bl b=>K (st.put d (.bl !b))
  |_=>False
 |.neg k x=>match st.ev x with
  |.int k' m=>k'=k∧TY k m fun z=>K (st.put d (.int k z))
  |_=>False
 |.cvi k x=>match st.ev x with
  |.int _ m=>match k with
   |.i64=>TF k m (K (st.put d (.int k m)))
   |k=>T4 k m fun z=>K (st.put d (.int k z))
  |_=>False
 |.cvs x=>match st.ev x with
  |.str s=>K (st.put d (.str s))
  |_=>False
 |.b2s x=>match st.rd x with
  |.hd k=>match st.H[k]? with
   |some (.row _ sz xs)=>Q4 sz xs fun s=>K (st.put d (.str s))
   |_=>False
  |.sl sz xs=>Q4 sz xs fun s=>K (st.put d (.str s))
  |.v (.slice none 0 0)=>K (st.put d (.str ⟨#[]⟩))
  |_=>False
 |.fad off x=>match st.ev x with
  |.ptr k o=>K (st.put d (.ptr k (o+off)))
  |.rp cs j=>K (st.put d (.rp cs (j+off)))
  |.re k sz i j=>K (st.put d (.re k sz i (j+off)))
  |_=>False
 |.fld ag off n x=>match st.ev x with
  |.agg cs=>if ag then off+n≤cs.length∧K (st.put d (.agg ((cs.drop off).take n))) else match cs[off]? with
   |some y=>K (st.put d y)
   |none=>False
  |_=>False
 |.iad sz x i=>match st.ev i with
  |.int _ m=>match st.rd x with
   |.sl sz' xs=>sz'=sz∧kR xs m fun _ u=>K (st.put d (.rp u.cells 0))
   |.hd k=>match st.H[k]? with
    |some (.row _ sz' xs)=>sz'=sz∧yP xs m fun i=>K (st.put d (.re k sz i 0))
    |some (.hrow _ sz' n _)=>sz'=sz∧O0 n m fun i=>K (st.put d (.re k sz i 0))
    |_=>False
   |_=>False
  |_=>False
 |.idx x i=>match st.ev x,st.ev i with
  |.str s,.int _ m=>FX s m fun z=>K (st.put d (.int .u8 z))
  |_,_=>False
 |.lens x=>match st.ev x with
  |.str s=>PN s fun z=>K (st.put d (.int .i64 z))
  |_=>False
 |.lenl x=>match st.rd x with
  |.sl _ xs=>Np xs fun z=>K (st.put d (.int .i64 z))
  |.v (.slice none 0 0)=>K (st.put d (.int .i64 0))
  |.hd k=>match st.H[k]? with
   |some (.row _ _ xs)=>Np xs fun z=>K (st.put d (.int .i64 z))
   |some (.hrow _ _ n _)=>K (st.put d (.int .i64 (Int.ofNat n)))
   |_=>False
  |_=>False
 |.lenm x=>match st.ev x with
  |.hd k=>match st.H[k]? with
   |some (.map _ es)=>Mf es fun z=>K (st.put d (.int .i64 z))
   |_=>False
  |.ph k=>match st.H[k]? with
   |some (.pool _ es _)=>Rf es fun z=>K (st.put d (.int .i64 z))
   |_=>False
  |_=>False
 |.app _ _ e sz bytes x y=>match st.ev x with
  |.hd k=>keep.contains k=false∧match st.H[k]? with
   |some (.row e' sz' xs)=>e'=e∧sz'=sz∧match st.rd y with
    |.sl sz'' ys=>sz''=sz∧pI xs ys bytes fun zs=>K (St.put ⟨Ws k .any st.T,(st.H.map (cC.kill k .any)).set k (.row e sz zs)⟩ d (.hd k))
    |.hd k2=>match st.H[k2]? with
     |some (.row _ sz'' ys)=>sz''=sz∧pI xs ys bytes fun zs=>K (St.put ⟨Ws k .any st.T,(st.H.map (cC.kill k .any)).set k (.row e sz zs)⟩ d (.hd k))
     |_=>False
    |.v (.slice none 0 0)=>K (st.put d (.hd k))
    |_=>False
   |some (.tip e' sz' xs)=>e'=e∧sz'=sz∧match st.rd y with
    |.sl sz'' ys=>sz''=sz∧pI xs ys bytes fun zs=>K (St.put ⟨Ws k (.sl sz xs) st.T,(st.H.map (cC.kill k (.sl sz xs))).set k (.tip e sz zs)⟩ d (.hd k))
    |.hd k2=>match st.H[k2]? with
     |some (.row _ sz'' ys)=>sz''=sz∧pI xs ys bytes fun zs=>K (St.put ⟨Ws k (.sl sz xs) st.T,(st.H.map (cC.kill k (.sl sz xs))).set k (.tip e sz zs)⟩ d (.hd k))
     |_=>False
    |.v (.slice none 0 0)=>K (st.put d (.hd k))
    |_=>False
   |_=>False
  |.v (.slice none 0 0)=>match st.rd y with
   |.sl sz'' ys=>sz''=sz∧Ma ys bytes (fun _=>st.new al (.row e sz ys) fun st' k=>K (st'.put d (.hd k)))
   |.hd k2=>match st.H[k2]? with
    |some (.row _ sz'' ys)=>sz''=sz∧Ma ys bytes (fun _=>st.new al (.row e sz ys) fun st' k=>K (st'.put d (.hd k)))
    |_=>False
   |_=>False
  |_=>False
 |.sli sz x lo hi=>match st.rd x with
  |.sl sz' xs=>sz'=sz∧rY st lo fun l=>rY st hi fun h=>Hi xs l h fun ys=>K (st.put d (.sl sz ys))
  |_=>False
 |.slt sz x lo=>match st.ev x with
  |.hd k=>match st.H[k]? with
   |some (.tip t sz' xs)=>sz'=sz∧rY st (some lo) fun l=>TK xs l (fun ys=>K (st.put d (.sl sz ys))) fun ys=>keep.contains k=false∧K (St.put ⟨Ws k (.sl sz xs) st.T,(st.H.map (cC.kill k (.sl sz xs))).set k (.tip t sz ys)⟩ d (.hd k))
   |_=>False
  |.sl sz' xs=>sz'=sz∧rY st (some lo) fun l=>Hi xs l none fun ys=>K (st.put d (.sl sz ys))
  |_=>False
 |.sls x lo hi=>match st.ev x with
  |.str s=>rY st lo fun l=>rY st hi fun h=>OC s l h fun u=>K (st.put d (.str u))
  |_=>False
 |.ext x i=>match st.ev x with
  |.tup l=>match l[i]? with
   |some y=>K (st.put d y)
   |none=>False
  |_=>False
 |.call f args=>fZ P keep f (args.map st.rd) st fun x st'=>K (st'.put d x)
 |.cav x args=>match st.ev x with
  |.clo f caps=>cL P f∧fZ P keep f (args.map st.rd++caps) st fun x st'=>K (st'.put d x)
  |.mth f caps=>cL P f∧fZ P keep f (caps++args.map st.rd) st fun x st'=>K (st'.put d x)
  |_=>False
 |.mkf f caps=>K (st.put d (.clo f (caps.map st.ev)))
 |.mkn f caps=>K (st.put d (.mth f (caps.map st.ev)))
 |.mkm t=>st.new al (.map t []) fun st' k=>K (st'.put d (.hd k))
 |.mnx mx x y=>match st.ev x,st.ev y with
  |.int k m,.int k2 n=>k2=k∧if mx then SB m n fun z=>K (st.put d (.int k z)) else Pf m n fun z=>K (st.put d (.int k z))
  |_,_=>False
 |.nils ne x=>match st.rd x with
  |.sl _ xs=>Of xs (fun _=>K (st.put d (.bl !ne))) (fun _=>K (st.put d (.bl ne)))
  |.v (.slice none 0 0)=>K (st.put d (.bl !ne))
  |.hd k=>match st.H[k]? with
   |some (.row _ _ xs)=>Of xs (fun _=>K (st.put d (.bl !ne))) (fun _=>K (st.put d (.bl ne)))
   |_=>False
  |_=>False
 |.nilm ne x=>match st.ev x with
  |.v (.map none)=>K (st.put d (.bl !ne))
  |.hd k=>match st.H[k]? with
   |some (.map _ _)=>K (st.put d (.bl ne))
   |_=>False
  |.ph k=>match st.H[k]? with
   |some (.pool _ _ _)=>K (st.put d (.bl ne))
   |_=>False
  |_=>False
 |.lkp ky ok z m key=>mK ky (st.ev key)=true∧match st.ev m with
  |.v (.map none)=>if ok then K (st.put d (.tup [z,.bl false])) else K (st.put d z)
  |.hd k=>match st.H[k]? with
   |some (.map _ es)=>rM (st.ev key) es fun o=>match o with
    |some (_,v)=>if ok then K (st.put d (.tup [v,.bl true])) else K (st.put d v)
    |none=>if ok then K (st.put d (.tup [z,.bl false])) else K (st.put d z)
   |_=>False
  |_=>False
 |.upd ky m key v=>mK ky (st.ev key)=true∧match st.ev m with
  |.hd k=>keep.contains k=false∧match st.H[k]? with
   |some (.map t es)=>AV.bnd 0 (st.rd v)=true∧rM (st.ev key) es fun o=>match o with
    |some (i,_)=>Ql es i (st.ev key,st.rd v) fun es'=>K (St.put ⟨st.T,st.H.set k (.map t es')⟩ d .any)
    |none=>OT es (st.ev key,st.rd v) fun es'=>K (St.put ⟨st.T,st.H.set k (.map t es')⟩ d .any)
   |_=>False
  |_=>False
 |.del ky m key=>mK ky (st.ev key)=true∧match st.ev m with
  |.v (.map none)=>K (st.put d (.tup []))
  |.hd k=>keep.contains k=false∧match st.H[k]? with
   |some (.map t es)=>rM (st.ev key) es fun o=>match o with
    |some (i,_)=>TE es i fun es'=>K (St.put ⟨st.T,st.H.set k (.map (MB t) es')⟩ d (.tup []))
    |none=>K (St.put st d (.tup []))
   |_=>False
  |_=>False
 |.plk ky ok z m key=>mK ky (st.ev key)=true∧match st.ev m with
  |.v (.map none)=>if ok then K (st.put d (.tup [z,.bl false])) else K (st.put d z)
  |.ph k=>keep.contains k=false∧match st.H[k]? with
   |some (.pool t es outs)=>QU (st.ev key) es outs
    (fun i hd l=>K (St.put ⟨st.T,st.H.set k (.pool t es ((i,hd.ren [] st.H.length) :: outs))++gY [] st.H.length l⟩ d (if ok then .tup [hd.ren [] st.H.length,.bl true] else hd.ren [] st.H.length)))
    (fun x=>K (st.put d (if ok then .tup [x,.bl true] else x))) (fun _=>K (st.put d (if ok then .tup [z,.bl false] else z)))
   |_=>False
  |_=>False
 |.pup ky m key v=>mK ky (st.ev key)=true∧match st.ev m with
  |.ph k=>keep.contains k=false∧match st.H[k]? with
   |some (.pool t es outs)=>(st.ev v).one=true∧Sv (st.ev key) es outs (st.ev v) fun es' outs'=>K (St.put ⟨st.T,st.H.set k (.pool t es' outs')⟩ d .any)
   |_=>False
  |_=>False
 |.rng x=>match st.ev x with
  |.ph k=>match st.H[k]? with
   |some (.pool _ es _)=>Rf es fun z=>st.new al (.iter (.ph k) z.toNat []) fun st' q=>K (st'.put d (.ptr q 0))
   |_=>False
  |.hd k=>match st.H[k]? with
   |some (.map t es)=>Nat.blt 0 t=true∧Mf es fun z=>st.new al (.iter (.hd k) z.toNat []) fun st' q=>K (st'.put d (.ptr q 0))
   |_=>False
  |_=>False
 |.nxt x=>match st.ev x with
  |.ptr q 0=>keep.contains q=false∧match st.H[q]? with
   |some (.iter (.ph k) since seen)=>keep.contains k=false∧match st.H[k]? with
    |some (.pool t es [])=>S1 es since seen
     (fun i key hd l=>K (St.put ⟨st.T,(st.H.set q (.iter (.ph k) since (seen++[i]))).set k (.pool t es [(i,hd.ren [] st.H.length)])++gY [] st.H.length l⟩ d (.tup [.bl true,key,hd.ren [] st.H.length])))
     (fun _=>K (st.put d (.tup [.bl false])))
    |_=>False
   |some (.iter (.hd k) since seen)=>match st.H[k]? with
    |some (.map t es)=>Nat.blt 0 t=true∧QM es since seen (fun i key v=>K (St.put ⟨st.T,st.H.set q (.iter (.hd k) since (seen++[i]))⟩ d (.tup [.bl true,key,v]))) (fun _=>K (st.put d (.tup [.bl false])))
    |_=>False
   |_=>False
  |_=>False
 |.ent x=>match st.ev x with
  |.ptr q 0=>match st.H[q]? with
   |some (.iter (.ph k) since seen)=>match st.H[k]? with
    |some (.pool _ es outs)=>Q2 es outs since seen fun key y=>K (st.put d (.tup [key,y]))
    |_=>False
   |some (.iter (.hd k) since seen)=>match st.H[k]? with
    |some (.map t es)=>Nat.blt 0 t=true∧Qs es since seen fun key y=>K (st.put d (.tup [key,y]))
    |_=>False
   |_=>False
  |_=>False
 |.bad=>False
 |.cms ne ks x y=>match st.ev x,st.ev y with
  |.agg l,.agg m=>gZ ks l m=true∧Vr (iP l m) (fun _=>K (st.put d (.bl !ne))) (fun _=>K (st.put d (.bl ne)))
  |_,_=>False
 |.aix ag sz n x i=>match st.ev x,st.ev i with
  |.agg cs,.int _ m=>cs.length=n * sz∧Gl n m (pX n m fun q=>if ag then K (st.put d (.agg ((cs.drop (q * sz)).take sz))) else match cs[q * sz]? with
   |some x=>K (st.put d x)
   |none=>False)
  |_,_=>False
 |.aia sz n x i=>match st.ev i with
  |.int _ m=>match st.ev x with
   |.ptr k o=>Gl n m (pX n m fun q=>K (st.put d (.ptr k (o+q * sz))))
   |.rp cs j=>Gl n m (pX n m fun q=>K (st.put d (.rp cs (j+q * sz))))
   |.re k s i j=>Gl n m (pX n m fun q=>K (st.put d (.re k s i (j+q * sz))))
   |_=>False
  |_=>False
 |.mkr t x=>match st.ev x with
  |.int _ _=>st.new al (.map t []) fun st' k=>K (st'.put d (.hd k))
  |_=>False
 |.mkp t=>st.new al (.pool t [] []) fun st' k=>K (st'.put d (.ph k))
 |.mkq t x=>match st.ev x with
  |.int _ _=>st.new al (.pool t [] []) fun st' k=>K (st'.put d (.ph k))
  |_=>False
 |.shf op k x y=>match st.ev x,st.ev y with
  |.int k1 m,.int _ n=>k1=k∧Wf op k m n fun z=>K (st.put d (.int k z))
  |_,_=>False
 |.mks t sz bytes zs len cap=>match st.ev len,st.ev cap with
  |.int _ n,.int _ c=>Qd n c bytes (cO sz zs) fun xs=>st.new al (.row t sz xs) fun st' k=>K (st'.put d (.hd k))
  |_,_=>False
def WJ:Value→Option AV
 |.bool b=>some (.bl b)
 |.int k x=>some (.int k x)
 |.string s=>some (.str s)
 |.pointer none=>some (.v (.pointer none))
 |.slice none 0 0=>some (.v (.slice none 0 0))
 |.map none=>some (.v (.map none))
 |.nilFunc=>some (.v .nilFunc)
 |.nilIface=>some (.v .nilIface)
 |_=>none
theorem WX {pub:cI}{w:World}{r:cF}{v:Value}{x:AV}(h:WJ v=some x):bS pub w r x v:=by
 unfold WJ at h
 split at h<;>first|(cases h;done)|(cases h;first|exact .bl _|exact .int _ _|exact .str _|exact .v _ rfl)
def Xh:List Value→Option (List AV)
 |[]=>some []
 |v :: l=>match WJ v,Xh l with
  |some x,some xs=>some (x :: xs)
  |_,_=>none
theorem Xy {pub:cI}{w:World}{r:cF}:∀{l:List Value}{xs:List AV},Xh l=some xs→l.length=xs.length∧∀(i:Nat) (x:AV) (u:Value),xs[i]?=some x→l[i]?=some u→bS pub w r x u
 |[],xs,h=>by cases h;exact⟨rfl,fun i x u hx _=>by simp at hx⟩
 |v :: l,xs,h=>by
  unfold Xh at h
  split at h
  ·rename_i x ys hx hys;cases h;obtain⟨h1,h2⟩:=Xy (pub:=pub) (w:=w) (r:=r) hys;refine⟨by rw[List.length_cons,List.length_cons,h1],fun i y u hy hu=>?_⟩;cases i with
   |zero=>cases hy;cases hu;exact WX hx
   |succ i=>exact h2 i y u (by simpa using hy) (by simpa using hu)
  ·cases h
def lT:Value→Option AV
 |.agg a=>(Xh a.toList).map .agg
 |v=>WJ v
theorem oN {pub:cI}{w:World}{r:cF}{v:Value}{x:AV}(h:lT v=some x):bS pub w r x v:=by
 unfold lT at h
 split at h
 ·rename_i a;obtain⟨xs,hxs,rfl⟩:=Option.map_eq_some_iff.1 h;obtain⟨h1,h2⟩:=Xy (pub:=pub) (w:=w) (r:=r) hxs;exact .agg (by simpa using h1) fun i x u hx hu=>h2 i x u hx (by simpa using hu)
 ·exact WX h
theorem Nv {v:Value}(h:SI v=true):(T0 v).one=true:=by
 cases v<;>first|rfl|cases h
theorem PO {pub:cI}{w:World}{r:cF}{v:Value}(h:SI v=true):bS pub w r (T0 v) v:=by
 cases v<;>first|exact .str _|exact .int _ _|exact .bl _|cases h
theorem LG {pub:cI}{w:World}{r:cF}{g:Nat}(h:gB pub w) (hg:Ex g=true):bS pub w r (I6 g) (.pointer (some ⟨g,0,none⟩)):=by
 unfold Ex at hg;rw[aO,aS]at hg;unfold I6;refine .rp (b:=g) (o:=0) 0 ?_ (fun i=>((glob g)[i]?).getD .nilFunc) (fun i u hu=>?_) fun i u hu=>?_
 ·rw[aS];intro x hx;obtain⟨v,hv,rfl⟩:=aW.1 hx;exact Nv (hg.1 v hv)
 ·rw[aD]at hu;cases hq:(glob g)[i]? with
  |none=>rw[hq]at hu;cases hu
  |some v=>
   rw[hq]at hu;cases hu;exact PO (hg.1 v (aC hq))
 ·rw[aD]at hu;cases hq:(glob g)[i]? with
  |none=>rw[hq]at hu;cases hu
  |some v=>
   rw[Nat.zero_add];have h1:=h.at_ g i v hq;exact⟨h1.1,h1.2.1⟩
def cA:Operand→Option XA
 |.tmp t=>some (.t t)
 |.const v=>(lT v).map .c
 |.func f=>some (.c (.clo f []))
 |.global g=>if Ex g then some (.g g) else none
section
variable {C:kN}{st:St}{a:Act}{w:World}{r:cF}{pub:cI}
theorem bM.ev (h:bM C st a w r pub) {o:Operand}{x:XA}(hx:cA o=some x):bS pub w r (st.ev x) (a.eval o):=by
 cases o with
 |tmp t=>cases hx;exact h.slots t
 |const v=>
  simp only[cA,Option.map_eq_some_iff]at hx;obtain⟨y,hy,rfl⟩:=hx;exact oN hy
 |func f=>cases hx;exact .clo f rfl (fun i x u h=>by simp at h)
 |«global» g=>
  simp only[cA]at hx
  split at hx
  ·rename_i hg;cases hx;exact LG h.mod.glob hg
  ·cases hx
theorem bM.view1 (h:bM C st a w r pub) {x:AV}{v:Value}(hx:bS pub w r x v):bS pub w r (st.view1 x) v:=by
 have h0:=hx;cases hx with
 |@hd _ k _ hr h1=>
  unfold St.view1;cases hk:st.H[k]? with
  |none=>simpa [hk]using h0
  |some e=>
   cases e with
   |tip t sz xs=>
    obtain⟨A,d,c,x,us,hr2,ho,hc,hs,hp⟩:=h.ent_tip hk;rw[hr2]at hr;cases hr;simpa [hk] using(Dv (r:=r) ho hc hs fun b hb=>(hp b hb).1)
   |_=>simpa [hk]using h0
 |_=>exact h0
theorem bM.view (h:bM C st a w r pub) {x:AV}{v:Value}(hx:bS pub w r x v):bS pub w r (st.view x) v:=by
 have h0:=hx;cases hx with
 |@agg _ l arr hl hc=>
  unfold St.view;refine .agg (by simpa using hl) fun i x u hx hu=>?_
  rw[aD]at hx;cases hy:l[i]? with
  |none=>rw[hy]at hx;cases hx
  |some y=>rw[hy]at hx;cases hx;exact h.view1 (hc i y u hy hu)
 |_=>exact h.view1 h0
theorem bM.rd (h:bM C st a w r pub) {o:Operand}{x:XA}(hx:cA o=some x):bS pub w r (st.rd x) (a.eval o):=h.view (h.ev hx)
end
theorem bM.ent_hrow {C:kN}{st:St}{a:Act}{w:World}{r:cF}{pub:cI}(h:bM C st a w r pub) {k:Nat}{t sz n:Nat}{cs:List AV}(hk:st.H[k]?=some (.hrow t sz n cs)):∃A c us,r k=some (.slice A n c)∧fP w t sz A n c us∧bO pub w r cs us:=by
 have h0:=h.mod.ent k _ hk;generalize hx:r k=x at h0;cases h0 with
 |hrow ho hc hp=>exact⟨_,_,_,rfl,ho,hc⟩
def fT.reads (st:St):fT→List Nat
 |.ld _ _ a=>match st.ev a with
  |.ptr k _=>[k]
  |.re k _ _ _=>[k]
  |_=>[]
 |.lenm x=>match st.ev x with
  |.hd k=>[k]
  |.ph k=>[k]
  |_=>[]
 |.lkp _ _ _ x _=>match st.ev x with
  |.hd k=>[k]
  |_=>[]
 |.b2s x=>match st.rd x with
  |.hd k=>[k]
  |_=>[]
 |.ent x=>match st.ev x with
  |.ptr q _=>match st.H[q]? with
   |some (.iter (.ph k) _ _)=>[q,k]
   |some (.iter (.hd k) _ _)=>[q,k]
   |_=>[]
  |_=>[]
 |_=>[]
def fT.loads:fT→Bool
 |.ld ..=>true
 |.lenm ..=>true
 |.lkp ..=>true
 |.b2s ..=>true
 |.ent ..=>true
 |_=>false
def fT.pubs (st:St):fT→Bool
 |.ld _ _ a=>match st.ev a with
  |.rp _ _=>true
  |_=>false
 |.b2s x=>match st.rd x with
  |.sl _ _=>true
  |_=>false
 |_=>false
structure oG (l:List Nat) (p:Bool) (r:cF) (pub:cI) (w w':World):Prop where
 cell:p=true→∀b i u,i < pub b→w.cell? ⟨b,i,none⟩=some u→w'.cell? ⟨b,i,none⟩=some u
 ent:∀k∈l,∀z,r k=some z→∀b∈bY z,w'.heap[b]?=w.heap[b]?
theorem oG.refl (l:List Nat) (p:Bool) (r:cF) (pub:cI) (w:World):oG l p r pub w w:=⟨fun _ _ _ _ _ h=>h,fun _ _ _ _ _ _=>rfl⟩
def dM (P:bG) (o:Oper) (x:fT):Prop:=
 ∀(C:kN) (st:St) (a:Act) (w:World) (r:cF) (pub:cI) (keep:List Nat) (al:Option Nat) (K:St→Prop),bM C st a w r pub→dB P keep al o.dst st K x →
  ∃v y,bS pub w r y v∧K (st.put o.dst y)∧∀w',(x.loads=true→oG (x.reads st) (x.pubs st) r pub w w')→(execOp a.eval o).run P w'=.ok (.value v) w'
section
variable {P:bG}{o:Oper}
theorem AZ {x:Operand}{x':XA}(ho:o.op=.move x∨o.op=.assign x) (hx:cA x=some x'):dM P o (.mov x'):=by
 intro C st a w r pub keep al K h hK;refine⟨a.eval x,_,h.ev hx,hK,fun w' _=>?_⟩;unfold execOp;rcases ho with ho|ho<;>rw[ho]<;>rfl
theorem Hu {c x y:Operand}{c' x' y':XA}(ho:o.op=.pick c x y) (hc:cA c=some c') (hx:cA x=some x') (hy:cA y=some y'):dM P o (.pick c' x' y'):=by
 intro C st a w r pub keep al K h hK;have h1:=h.ev hc;simp only[dB]at hK;generalize hcv:st.ev c'=cv at hK h1;generalize hv:a.eval c=v at h1;cases h1 with
 |bl t=>
  dsimp only at hK;cases t with
  |true=>exact⟨_,_,h.ev hx,hK,fun w' _=>by unfold execOp;simp[ho,hv,asBool]⟩
  |false=>exact⟨_,_,h.ev hy,hK,fun w' _=>by unfold execOp;simp[ho,hv,asBool]⟩
 |_=>exact hK.elim
theorem KS {x:Operand}{x':XA}(ho:o.op=.nilCheck x) (hx:cA x=some x'):dM P o (.nck x'):=by
 intro C st a w r pub keep al K h hK;have h1:=h.ev hx;simp only[dB]at hK;generalize hcv:st.ev x'=cv at hK h1;generalize hv:a.eval x=v at h1;cases h1 with
 |ptr off hr=>exact⟨_,_,.ptr off hr,hK,fun w' _=>by unfold execOp;simp[ho,hv]⟩
 |rp j ho' g h1 h2=>exact⟨_,_,.rp j ho' g h1 h2,hK,fun w' _=>by unfold execOp;simp[ho,hv]⟩
 |re sz i j hr=>exact⟨_,_,.re sz i j hr,hK,fun w' _=>by unfold execOp;simp[ho,hv]⟩
 |clo f hl hc=>exact⟨_,_,.clo f hl hc,hK,fun w' _=>by unfold execOp;simp[ho,hv]⟩
 |mth f hl hc=>exact⟨_,_,.mth f hl hc,hK,fun w' _=>by unfold execOp;simp[ho,hv]⟩
 |_=>exact hK.elim
theorem JG {x:Operand}{x':XA}{t:TypeId}(ho:o.op=.unOp .not t x) (hx:cA x=some x'):dM P o (.not x'):=by
 intro C st a w r pub keep al K h hK;have h1:=h.ev hx;simp only[dB]at hK;generalize hcv:st.ev x'=cv at hK h1;generalize hv:a.eval x=v at h1;cases h1 with
 |bl b=>exact⟨_,_,.bl _,hK,fun w' _=>by unfold execOp;simp[ho,hv,Op.unary]⟩
 |_=>exact hK.elim
theorem KM {x:Operand}{x':XA}{t:TypeId}{k:IntKind}(ho:o.op=.unOp .neg t x) (hx:cA x=some x'):dM P o (.neg k x'):=by
 intro C st a w r pub keep al K h hK;have h1:=h.ev hx;simp only[dB]at hK;generalize hcv:st.ev x'=cv at hK h1;generalize hv:a.eval x=v at h1;cases h1 with
 |int k' m=>
  obtain⟨rfl,⟨hK⟩⟩:=hK;exact⟨_,_,.int _ _,hK _ rfl,fun w' _=>by unfold execOp;simp[ho,hv,Op.unary,Op.intArith]⟩
 |_=>exact hK.elim
theorem Be {x y:Operand}{x' y':XA}{t t':TypeId}{op:BinOp}{k:IntKind}(ho:o.op=.binOp op t x y t') (hx:cA x=some x') (hy:cA y=some y'):dM P o (.ari op k x' y'):=by
 intro C st a w r pub keep al K h hK;have h1:=h.ev hx;have h2:=h.ev hy;simp only[dB]at hK;generalize hcv:st.ev x'=cv at hK h1;generalize hcu:st.ev y'=cu at hK h2;generalize hv:a.eval x=v at h1;generalize hu:a.eval y=u at h2;cases h1 with
 |int k1 m=>
  cases h2 with
  |int k2 n=>
   obtain⟨rfl,rfl,hK⟩:=hK;have run:∀z,(∀w':World,(binOp op t (.int k2 m) (.int k2 n)).run P w'=.ok z w')→(op≠.eql∧op≠.neq)→∀w':World,(execOp a.eval o).run P w'=.ok (.value z) w':=fun z hz hne w'=>by
    unfold execOp;simp only[ho,hv,hu];have hg:(eqGuard op t x y (.int k2 m) (.int k2 n)).run P w'=.ok () w':=by
     unfold eqGuard;cases op<;>first|rfl|exact absurd rfl hne.1|exact absurd rfl hne.2
    simp[Sem.run_bind,hg,hz w']
   have add:∀z,k2.wrap (m+n)=z→op=.add→∀w':World,(execOp a.eval o).run P w'=.ok (.value (.int k2 z)) w':=fun z hz hop=>run _ (fun w'=>by subst hop;simp[binOp,Op.intArith,hz]) (by subst hop;exact⟨by decide,by decide⟩)
   have sub:∀z,k2.wrap (m - n)=z→op=.sub→∀w':World,(execOp a.eval o).run P w'=.ok (.value (.int k2 z)) w':=fun z hz hop=>run _ (fun w'=>by subst hop;simp[binOp,Op.intArith,hz]) (by subst hop;exact⟨by decide,by decide⟩)
   have mul:∀z,k2.wrap (m * n)=z→op=.mul→∀w':World,(execOp a.eval o).run P w'=.ok (.value (.int k2 z)) w':=fun z hz hop=>run _ (fun w'=>by subst hop;simp[binOp,Op.intArith,hz]) (by subst hop;exact⟨by decide,by decide⟩)
   cases op with
   |add=>cases k2<;>first|exact⟨_,_,.int _ _,hK.rest _ rfl,fun w' _=>add _ hK.owed rfl w'⟩|exact⟨_,_,.int _ _,hK.rest _ rfl,fun w' _=>add _ rfl rfl w'⟩
   |sub=>cases k2<;>first|exact⟨_,_,.int _ _,hK.rest _ rfl,fun w' _=>sub _ hK.owed rfl w'⟩|exact⟨_,_,.int _ _,hK.rest _ rfl,fun w' _=>sub _ rfl rfl w'⟩
   |mul=>cases k2<;>first|exact⟨_,_,.int _ _,hK.rest _ rfl,fun w' _=>mul _ hK.owed rfl w'⟩|exact⟨_,_,.int _ _,hK.rest _ rfl,fun w' _=>mul _ rfl rfl w'⟩
   |quo=>
    obtain⟨⟨h0,hin⟩,hK⟩:=hK;exact⟨_,_,.int _ _,hK _ rfl,fun w' _=>run _ (fun w'=>by simp[binOp,Op.intDiv,h0,hin]) ⟨by decide,by decide⟩ w'⟩
   |rem=>
    obtain⟨h0,hK⟩:=hK;exact⟨_,_,.int _ _,hK _ rfl,fun w' _=>run _ (fun w'=>by simp[binOp,Op.intDiv,h0]) ⟨by decide,by decide⟩ w'⟩
   |and=>exact⟨_,_,.int _ _,hK.rest _ rfl,fun w' _=>run _ (fun w'=>by simp[binOp,Op.intBits]) ⟨by decide,by decide⟩ w'⟩
   |or=>exact⟨_,_,.int _ _,hK.rest _ rfl,fun w' _=>run _ (fun w'=>by simp[binOp,Op.intBits]) ⟨by decide,by decide⟩ w'⟩
   |xor=>exact⟨_,_,.int _ _,hK.rest _ rfl,fun w' _=>run _ (fun w'=>by simp[binOp,Op.intBits]) ⟨by decide,by decide⟩ w'⟩
   |andNot=>exact⟨_,_,.int _ _,hK.rest _ rfl,fun w' _=>run _ (fun w'=>by simp[binOp,Op.intBits]) ⟨by decide,by decide⟩ w'⟩
   |_=>exact hK.elim
  |_=>exact hK.elim
 |str s1=>
  cases h2 with
  |str s2=>
   cases op with
   |add=>
    obtain⟨hle,hK⟩:=hK;refine⟨_,_,.str _,hK _ rfl,fun w' _=>?_⟩;unfold execOp;have hg:(eqGuard .add t x y (.string s1) (.string s2)).run P w'=.ok () w':=by unfold eqGuard;rfl
    have hn:¬(IntKind.i64.max < (s1.size:Int)+(s2.size:Int)):=by
     have h9:IntKind.i64.max=9223372036854775807:=by decide
     rw[h9];unfold maxLen at hle;omega
    have hn2:(s1.size:Int)+(s2.size:Int)≤9223372036854775807:=by unfold maxLen at hle;omega
    simp[ho,hv,hu,Sem.run_bind,hg,binOp,Op.stringOp,hn2]
   |_=>exact hK.elim
  |_=>exact hK.elim
 |_=>first|exact hK.elim|(cases h2<;>exact hK.elim)
theorem uU {s t:bF}:(s.toList == t.toList)=decide (s=t):=by
 by_cases h:s=t
 ·subst h;simp
 ·have:s.toList≠t.toList:=fun e=>h (by
   rw[Go.ByteArray.toList_eq,Go.ByteArray.toList_eq]at e;cases s;cases t;simp only[ByteArray.mk.injEq];exact Array.toList_inj.1 e)
  rw[aG h];exact beq_eq_false_iff_ne.2 this
theorem iX {pub:cI}{w:World}{r:cF}{st:St}{d:Option Nat}{K:St→Prop}{p:Prop}{F:Bool→World→Prop}{b1 b2:Bool}(hy:p→K (st.put d (.bl b1))) (hn:¬p→K (st.put d (.bl b2))) (ht:p→∀w',F b1 w') (hf:¬p→∀w',F b2 w') :
  ∃b,K (st.put d (.bl b))∧bS pub w r (.bl b) (.bool b)∧∀w',F b w':=by
 by_cases hp:p
 ·exact⟨_,hy hp,.bl _,ht hp⟩
 ·exact⟨_,hn hp,.bl _,hf hp⟩
theorem iT {x y:Operand}{x' y':XA}{t t':TypeId}{op:BinOp}
  (ho:o.op=.binOp op t x y t') (hx:cA x=some x') (hy:cA y=some y'):dM P o (.cmp op x' y'):=by
 intro C st a w r pub keep al K h hK;have h1:=h.ev hx;have h2:=h.ev hy;simp only[dB]at hK;generalize hcv:st.ev x'=cv at hK h1;generalize hcu:st.ev y'=cu at hK h2;generalize hv:a.eval x=v at h1;generalize hu:a.eval y=u at h2;have run:∀z,(∀w':World,(eqGuard op t x y v u).run P w'=.ok () w')→(∀w':World,(binOp op t v u).run P w'=.ok z w')→∀w':World,(execOp a.eval o).run P w'=.ok (.value z) w':=fun z hg hz w'=>by
  unfold execOp;simp[ho,hv,hu,Sem.run_bind,hg w',hz w']
 have fin:∀(F:Bool→World→Prop),(∀b w',F b w'→(execOp a.eval o).run P w'=.ok (.value (.bool b)) w')→(∃b,K (st.put o.dst (.bl b))∧bS pub w r (.bl b) (.bool b)∧∀w',F b w') →
   ∃v y,bS pub w r y v∧K (st.put o.dst y)∧∀w',((fT.cmp op x' y').loads=true→oG ((fT.cmp op x' y').reads st) ((fT.cmp op x' y').pubs st) r pub w w')→(execOp a.eval o).run P w'=.ok (.value v) w':=fun F hF ⟨b,hb,hv,hw⟩=>⟨_,_,hv,hb,fun w' _=>hF b w' (hw w')⟩
 cases h1 with
 |int k1 m=>
  cases h2 with
  |int k2 n=>
   obtain⟨rfl,hK⟩:=hK;have hg:∀w':World,(eqGuard op t x y (.int k1 m) (.int k1 n)).run P w'=.ok () w':=fun w'=>by unfold eqGuard;cases op<;>rfl
   have go:∀b,(∀w':World,(binOp op t (.int k1 m) (.int k1 n)).run P w'=.ok (.bool b) w')→∀w':World,(execOp a.eval o).run P w'=.ok (.value (.bool b)) w':=fun b hb=>run _ hg hb
   cases op with
   |eql=>exact fin _ (fun b w' h=>h) (iX (p:=m=n) hK.yes hK.no (fun hp=>go _ (fun w'=>by simp[binOp,Op.intCmp,hp])) (fun hp=>go _ (fun w'=>by simp[binOp,Op.intCmp,hp])))
   |neq=>exact fin _ (fun b w' h=>h) (iX (p:=m=n) hK.yes hK.no (fun hp=>go _ (fun w'=>by simp[binOp,Op.intCmp,hp])) (fun hp=>go _ (fun w'=>by simp[binOp,Op.intCmp,hp])))
   |lss=>exact fin _ (fun b w' h=>h) (iX (p:=m < n) hK.yes (fun hp=>hK.no (by omega)) (fun hp=>go _ (fun w'=>by simp[binOp,Op.intCmp,hp])) (fun hp=>go _ (fun w'=>by simp[binOp,Op.intCmp];omega)))
   |leq=>exact fin _ (fun b w' h=>h) (iX (p:=m≤n) hK.yes (fun hp=>hK.no (by omega)) (fun hp=>go _ (fun w'=>by simp[binOp,Op.intCmp,hp])) (fun hp=>go _ (fun w'=>by simp[binOp,Op.intCmp];omega)))
   |gtr=>exact fin _ (fun b w' h=>h) (iX (p:=n < m) hK.yes (fun hp=>hK.no (by omega)) (fun hp=>go _ (fun w'=>by simp[binOp,Op.intCmp,hp])) (fun hp=>go _ (fun w'=>by simp[binOp,Op.intCmp];omega)))
   |geq=>exact fin _ (fun b w' h=>h) (iX (p:=n≤m) hK.yes (fun hp=>hK.no (by omega)) (fun hp=>go _ (fun w'=>by simp[binOp,Op.intCmp,hp])) (fun hp=>go _ (fun w'=>by simp[binOp,Op.intCmp];omega)))
   |_=>exact hK.elim
  |_=>exact hK.elim
 |str s1=>
  cases h2 with
  |str s2=>
   have hg:∀w':World,(eqGuard op t x y (.string s1) (.string s2)).run P w'=.ok () w':=fun w'=>by unfold eqGuard;cases op<;>rfl
   have go:∀b,(∀w':World,(binOp op t (.string s1) (.string s2)).run P w'=.ok (.bool b) w')→∀w':World,(execOp a.eval o).run P w'=.ok (.value (.bool b)) w':=fun b hb=>run _ hg hb
   cases op with
   |eql=>exact fin _ (fun b w' h=>h) (iX (p:=s1=s2) hK.yes hK.no (fun hp=>go _ (fun w'=>by simp[binOp,Op.stringOp,hp])) (fun hp=>go _ (fun w'=>by simp[binOp,Op.stringOp,uU,hp])))
   |neq=>exact fin _ (fun b w' h=>h) (iX (p:=s1=s2) hK.yes hK.no (fun hp=>go _ (fun w'=>by simp[binOp,Op.stringOp,hp])) (fun hp=>go _ (fun w'=>by simp[binOp,Op.stringOp,uU,hp])))
   |lss=>exact fin _ (fun b w' h=>h) (iX (p:=Op.bytesLess s1.toList s2.toList=true) hK.yes (fun hp=>hK.no (by simpa using hp)) (fun hp=>go _ (fun w'=>by simp[binOp,Op.stringOp,hp])) (fun hp=>go _ (fun w'=>by simp[binOp,Op.stringOp,hp])))
   |geq=>exact fin _ (fun b w' h=>h) (iX (p:=Op.bytesLess s1.toList s2.toList=true) hK.yes (fun hp=>hK.no (by simpa using hp)) (fun hp=>go _ (fun w'=>by simp[binOp,Op.stringOp,hp])) (fun hp=>go _ (fun w'=>by simp[binOp,Op.stringOp,hp])))
   |leq=>exact fin _ (fun b w' h=>h) (iX (p:=Op.bytesLess s1.toList s2.toList=true∨s1=s2) hK.yes hK.no (fun hp=>go _ (fun w'=>by rcases hp with hp|hp<;>simp[binOp,Op.stringOp,hp])) (fun hp=>go _ (fun w'=>by simp only[not_or]at hp;simp[binOp,Op.stringOp,uU,hp.1,hp.2])))
   |gtr=>exact fin _ (fun b w' h=>h) (iX (p:=Op.bytesLess s1.toList s2.toList=true∨s1=s2) hK.yes hK.no (fun hp=>go _ (fun w'=>by rcases hp with hp|hp<;>simp[binOp,Op.stringOp,hp])) (fun hp=>go _ (fun w'=>by simp only[not_or]at hp;simp[binOp,Op.stringOp,uU,hp.1,hp.2])))
   |_=>exact hK.elim
  |_=>exact hK.elim
 |_=>first|exact hK.elim|(cases h2<;>exact hK.elim)
theorem Ca {x y:Operand}{x' y':XA}{t t':TypeId}{op:BinOp}(hd:P.underlying t=some .bool) (ho:o.op=.binOp op t x y t') (hx:cA x=some x') (hy:cA y=some y'):dM P o (.cmb op x' y'):=by
 intro C st a w r pub keep al K h hK;have h1:=h.ev hx;have h2:=h.ev hy;simp only[dB]at hK;generalize hcv:st.ev x'=cv at hK h1;generalize hcu:st.ev y'=cu at hK h2;generalize hv:a.eval x=v at h1;generalize hu:a.eval y=u at h2;cases h1 with
 |bl b1=>
  cases h2 with
  |bl b2=>
   have eq:∀w':World,(Op.equal t (.bool b1) (.bool b2)).run P w'=.ok (b1 == b2) w':=fun w'=>by
    show (Op.equalIn (9999+1) t _ _).run P w'=_;unfold Op.equalIn;simp[Sem.run_bind,run_underlying hd]
   have hg:∀w':World,(eqGuard op t x y (.bool b1) (.bool b2)).run P w'=.ok () w':=fun w'=>by unfold eqGuard;cases op<;>rfl
   have go:∀z,(∀w':World,(binOp op t (.bool b1) (.bool b2)).run P w'=.ok z w')→∀w':World,(execOp a.eval o).run P w'=.ok (.value z) w':=fun z hz w'=>by
    unfold execOp;simp[ho,hv,hu,Sem.run_bind,hg w',hz w']
   cases op with
   |eql=>
    have key:∀w':World,(binOp .eql t (.bool b1) (.bool b2)).run P w'=.ok (.bool (b1 == b2)) w':=fun w'=>by simp[binOp,eq]
    by_cases hp:b1=b2
    ·exact⟨_,_,.bl _,hK.yes hp,fun w' _=>go _ (fun w'=>by rw[key w',beq_iff_eq.2 hp]) w'⟩
    ·exact⟨_,_,.bl _,hK.no hp,fun w' _=>go _ (fun w'=>by rw[key w',beq_eq_false_iff_ne.2 hp]) w'⟩
   |neq=>
    have key:∀w':World,(binOp .neq t (.bool b1) (.bool b2)).run P w'=.ok (.bool (!(b1 == b2))) w':=fun w'=>by simp[binOp,eq]
    by_cases hp:b1=b2
    ·exact⟨_,_,.bl _,hK.yes hp,fun w' _=>go _ (fun w'=>by rw[key w',beq_iff_eq.2 hp];rfl) w'⟩
    ·exact⟨_,_,.bl _,hK.no hp,fun w' _=>go _ (fun w'=>by rw[key w',beq_eq_false_iff_ne.2 hp];rfl) w'⟩
   |_=>exact hK.elim
  |_=>exact hK.elim
 |_=>first|exact hK.elim|(cases h2<;>exact hK.elim)
theorem Br {x y:Operand}{x':XA}{t e t':TypeId}{op:BinOp}(ne:Bool) (hop:op=if ne then .neq else .eql) (hd:P.underlying t=some (.pointer e)) (ho:o.op=.binOp op t x y t') (hx:cA x=some x') (hy:y=.const (.pointer none)):dM P o (.cmn ne x'):=by
 intro C st a w r pub keep al K h hK;have h1:=h.ev hx;simp only[dB]at hK;generalize hcv:st.ev x'=cv at hK h1;generalize hv:a.eval x=v at h1;have hu:a.eval y=.pointer none:=by subst hy;rfl
 have eqn:∀A,∀w':World,(Op.equal t (.pointer A) (.pointer none)).run P w'=.ok (A.isNone) w':=fun A w'=>by
  show (Op.equalIn (9999+1) t _ _).run P w'=_;unfold Op.equalIn;cases A<;>simp[Sem.run_bind,run_underlying hd]
 have go:∀A,v=.pointer A→∀w':World,(execOp a.eval o).run P w'=.ok (.value (.bool (A.isNone != ne))) w':=fun A hA w'=>by
  subst hA;have hg:(eqGuard op t x y (.pointer A) (.pointer none)).run P w'=.ok () w':=by unfold eqGuard;cases op<;>rfl
  unfold execOp;cases ne<;>simp only[aY,if_false,if_true]at hop<;>subst hop<;>simp[ho,hv,hu,Sem.run_bind,hg,binOp,eqn]
 cases h1 with
 |ptr off hr=>exact⟨_,_,.bl _,hK,fun w' _=>by rw[go _ rfl w'];simp⟩
 |rp j ho g hr hg=>exact⟨_,_,.bl _,hK,fun w' _=>by rw[go _ rfl w'];simp⟩
 |v hz=>
  cases v with
  |pointer A=>
   cases A with
   |none=>exact⟨_,_,.bl _,hK,fun w' _=>by rw[go _ rfl w'];simp⟩
   |some _=>exact hK.elim
  |_=>exact hK.elim
 |_=>exact hK.elim
theorem Yo {x y:Operand}{x':XA}{t t':TypeId}{ms:Array (String×TypeId)}{op:BinOp}(ne:Bool) (hop:op=if ne then .neq else .eql) (hd:P.underlying t=some (.interface ms)) (ho:o.op=.binOp op t x y t') (hx:cA x=some x') (hy:y=.const .nilIface):dM P o (.cmi ne x'):=by
 intro C st a w r pub keep al K h hK;have h1:=h.ev hx;simp only[dB]at hK;generalize hcv:st.ev x'=cv at hK h1;generalize hv:a.eval x=v at h1;have hu:a.eval y=.nilIface:=by subst hy;rfl
 have eqn:∀w':World,(Op.equal t .nilIface .nilIface).run P w'=.ok true w':=fun w'=>by
  show (Op.equalIn (9999+1) t _ _).run P w'=_;unfold Op.equalIn;simp[Sem.run_bind,run_underlying hd]
 cases h1 with
 |v hz=>
  cases v with
  |nilIface=>
   refine⟨_,_,.bl _,hK,fun w' _=>?_⟩;have hg:eqGuard op t x y .nilIface .nilIface=pure ():=by subst hy;cases op<;>cases x<;>rfl
   unfold execOp;cases ne<;>simp only[aY,if_false,if_true]at hop<;>subst hop<;>simp[ho,hv,hu,Sem.run_bind,hg,binOp,eqn]
  |_=>exact hK.elim
 |_=>exact hK.elim
theorem AX {x y:Operand}{x':XA}{t t':TypeId}{ps rs:Array TypeId}{va:Bool}{op:BinOp}(ne:Bool) (hop:op=if ne then .neq else .eql) (hd:P.underlying t=some (.func ps rs va)) (ho:o.op=.binOp op t x y t') (hx:cA x=some x') (hy:y=.const .nilFunc):dM P o (.cmf ne x'):=by
 intro C st a w r pub keep al K h hK;have h1:=h.ev hx;simp only[dB]at hK;generalize hcv:st.ev x'=cv at hK h1;generalize hv:a.eval x=v at h1;have hu:a.eval y=.nilFunc:=by subst hy;rfl
 have go:∀b,(∀w':World,(Op.equal t v .nilFunc).run P w'=.ok b w')→∀w':World,(execOp a.eval o).run P w'=.ok (.value (.bool (b != ne))) w':=fun b eqn w'=>by
  have hg:(eqGuard op t x y v .nilFunc).run P w'=.ok () w':=by subst hy;clear eqn hv h1;unfold eqGuard;cases op<;>cases v<;>rfl
  unfold execOp;cases ne<;>simp only[aY,if_false,if_true]at hop<;>subst hop<;>simp[ho,hv,hu,Sem.run_bind,hg,binOp,eqn]
 cases h1 with
 |clo f hl hr=>
  refine⟨_,_,.bl _,hK,fun w' _=>?_⟩;rw[go false (fun w'=>by
   show (Op.equalIn (9999+1) t _ _).run P w'=_;unfold Op.equalIn;simp[Sem.run_bind,run_underlying hd]) w']
  simp
 |mth f hl hr=>
  refine⟨_,_,.bl _,hK,fun w' _=>?_⟩;rw[go false (fun w'=>by
   show (Op.equalIn (9999+1) t _ _).run P w'=_;unfold Op.equalIn;simp[Sem.run_bind,run_underlying hd]) w']
  simp
 |v hz=>
  cases v with
  |nilFunc=>
   refine⟨_,_,.bl _,hK,fun w' _=>?_⟩;rw[go true (fun w'=>by
    show (Op.equalIn (9999+1) t _ _).run P w'=_;unfold Op.equalIn;simp[Sem.run_bind,run_underlying hd]) w']
   simp
  |_=>exact hK.elim
 |_=>exact hK.elim
theorem JT {x:Operand}{x':XA}{s t:TypeId}{k:IntKind}{d:TypeDesc}(hs:P.underlying s=some d) (ht:P.underlying t=some (.int k)) (ho:o.op=.convert s t x) (hx:cA x=some x'):dM P o (.cvi k x'):=by
 intro C st a w r pub keep al K h hK;have h1:=h.ev hx;simp only[dB]at hK;generalize hcv:st.ev x'=cv at hK h1;generalize hv:a.eval x=v at h1;cases h1 with
 |int k' m=>
  have run:∀w':World,(execOp a.eval o).run P w'=.ok (.value (.int k (k.wrap m))) w':=fun w'=>by
   unfold execOp;simp[ho,hv,convert,Sem.run_bind,run_underlying hs,run_underlying ht,Conv.intToInt]
  cases k<;>first|exact⟨_,_,.int _ _,hK.rest,fun w' _=>by rw[run w',hK.owed]⟩|exact⟨_,_,.int _ _,hK.rest _ rfl,fun w' _=>run w'⟩
 |_=>exact hK.elim
theorem JN {x:Operand}{x':XA}{s t:TypeId}{d:TypeDesc}(hs:P.underlying s=some d) (ht:P.underlying t=some .string) (ho:o.op=.convert s t x) (hx:cA x=some x'):dM P o (.cvs x'):=by
 intro C st a w r pub keep al K h hK;have h1:=h.ev hx;simp only[dB]at hK;generalize hcv:st.ev x'=cv at hK h1;generalize hv:a.eval x=v at h1;cases h1 with
 |str s1=>exact⟨_,_,.str _,hK,fun w' _=>by unfold execOp;simp[ho,hv,convert,Sem.run_bind,run_underlying hs,run_underlying ht]⟩
 |_=>exact hK.elim
theorem Kb {x:Operand}{x':XA}{s:TypeId}{f:Nat}{fields:Array Field}{fd:Field}{i:TypeInfo}(hs:P.underlying s=some (.struct fields)) (hf:fields[f]?=some fd) (hi:P.info? fd.type=some i) (hz:i.size≠0)
  (ho:o.op=.fieldAddr s x f) (hx:cA x=some x'):dM P o (.fad fd.offset x'):=by
 intro C st a w r pub keep al K h hK;have h1:=h.ev hx;simp only[dB]at hK;generalize hcv:st.ev x'=cv at hK h1;generalize hv:a.eval x=v at h1;have run:∀b off,v=.pointer (some ⟨b,off,none⟩)→∀w':World,(execOp a.eval o).run P w'=.ok (.value (.pointer (some ⟨b,off+fd.offset,none⟩))) w':=fun b off hv' w'=>by
  subst hv';unfold execOp;simp[ho,hv,Instr.fieldAt,Sem.run_bind,run_underlying hs,hf,Instr.sureAddr,fieldPlace,sizeOf,typeInfo,hi,hz,Addr.add_lit]
 cases h1 with
 |ptr off hr=>exact⟨_,_,.ptr _ hr,hK,fun w' _=>run _ _ rfl w'⟩
 |@rp _ cs b o' j ho' g h1 h2=>exact⟨_,_,.rp _ ho' g h1 h2,hK,fun w' _=>by rw[run _ _ rfl w',Nat.add_assoc]⟩
 |@re _ k b n c sz i j hr=>exact⟨_,_,.re sz i _ hr,hK,fun w' _=>by rw[run _ _ rfl w',Nat.add_assoc]⟩
 |_=>exact hK.elim
def RP:TypeDesc→Bool
 |.struct _=>true
 |.array _ _=>true
 |_=>false
def iZ (P:bG) (t:TypeId):Option Bool:=(P.underlying t).map RP
theorem fD {t:TypeId}{b:Bool}(h:iZ P t=some b) (w:World):(isAgg t).run P w=.ok b w:=by
 unfold iZ at h;cases hd:P.underlying t with
 |none=>rw[hd]at h;cases h
 |some d=>
  rw[hd]at h;simp only[Option.map_some,bD]at h;unfold isAgg;rw[Sem.run_bind,run_underlying hd w];cases d<;>simp_all [RP]
theorem Jn {x:Operand}{x':XA}{s:TypeId}{f:Nat}{fields:Array Field}{fd:Field}{i:TypeInfo}{ag:Bool}(hs:P.underlying s=some (.struct fields)) (hf:fields[f]?=some fd) (hi:P.info? fd.type=some i) (ha:iZ P fd.type=some ag)
  (ho:o.op=.field s x f) (hx:cA x=some x'):dM P o (.fld ag fd.offset i.size x'):=by
 intro C st a w r pub keep al K h hK;have h1:=h.ev hx;simp only[dB]at hK;generalize hcv:st.ev x'=cv at hK h1;generalize hv:a.eval x=v at h1;cases h1 with
 |@agg _ cs arr hl hc=>
  dsimp only at hK;cases ag with
  |true=>
   simp only[if_true]at hK;refine⟨.agg (arr.extract fd.offset (fd.offset+i.size)),_,.agg ?_ (fun j y u hy hu=>?_),hK.2,fun w' _=>?_⟩
   ·simp[hl];omega
   ·rw[List.getElem?_take]at hy
    split at hy
    ·rw[List.getElem?_drop]at hy;rw[Array.getElem?_extract]at hu
     split at hu
     ·exact hc _ y u hy hu
     ·cases hu
    ·cases hy
   ·unfold execOp;simp[ho,hv,Instr.field,Sem.run_bind,run_underlying hs,hf,asAgg,part,fD ha,sizeOf,typeInfo,hi]
  |false=>
   simp only[aY,if_false]at hK;cases hy:cs[fd.offset]? with
   |none=>rw[hy]at hK;exact hK.elim
   |some y=>
    rw[hy]at hK;have hlt:fd.offset < arr.size:=by rw[hl];exact(aA.1 hy).1
    refine⟨arr[fd.offset],y,hc _ _ _ hy (aK hlt),hK,fun w' _=>?_⟩;unfold execOp;simp[ho,hv,Instr.field,Sem.run_bind,run_underlying hs,hf,asAgg,part,fD ha,aK hlt]
 |_=>exact hK.elim
theorem Ln {x:Operand}{x':XA}{i:Nat}(ho:o.op=.extract x i) (hx:cA x=some x'):dM P o (.ext x' i):=by
 intro C st a w r pub keep al K h hK;have h1:=h.ev hx;simp only[dB]at hK;generalize hcv:st.ev x'=cv at hK h1;generalize hv:a.eval x=v at h1;cases h1 with
 |@tup _ cs arr hl hc=>
  dsimp only at hK;cases hy:cs[i]? with
  |none=>rw[hy]at hK;exact hK.elim
  |some y=>
   rw[hy]at hK;have hlt:i < arr.size:=by rw[hl];exact(aA.1 hy).1
   refine⟨arr[i],y,hc _ _ _ hy (aK hlt),hK,fun w' _=>?_⟩;unfold execOp;simp[ho,hv,Instr.extract,aK hlt]
 |_=>exact hK.elim
def Hk:List Operand→Option (List XA)
 |[]=>some []
 |o :: l=>match cA o,Hk l with
  |some x,some r=>some (x :: r)
  |_,_=>none
theorem bM.evs {C:kN}{st:St}{a:Act}{w:World}{r:cF}{pub:cI}(h:bM C st a w r pub):∀{l:List Operand}{xs:List XA},Hk l=some xs→bO pub w r (xs.map st.ev) (l.map a.eval)
 |[],xs,hx=>by cases hx;exact .nil
 |o :: l,xs,hx=>by
  unfold Hk at hx
  split at hx
  ·rename_i y ys h1 h2;cases hx;exact .cons (h.ev h1) (h.evs h2)
  ·cases hx
theorem bM.rds {C:kN}{st:St}{a:Act}{w:World}{r:cF}{pub:cI}(h:bM C st a w r pub):∀{l:List Operand}{xs:List XA},Hk l=some xs→bO pub w r (xs.map st.rd) (l.map a.eval)
 |[],xs,hx=>by cases hx;exact .nil
 |o :: l,xs,hx=>by
  unfold Hk at hx
  split at hx
  ·rename_i y ys h1 h2;cases hx;exact .cons (h.rd h1) (h.rds h2)
  ·cases hx
theorem KU {f:Nat}{caps:Array Operand}{caps':List XA}(ho:o.op=.makeFunc (.func f) #[] caps) (hc:Hk caps.toList=some caps'):dM P o (.mkf f caps'):=by
 intro C st a w r pub keep al K h hK;have h1:=h.evs hc;simp only[dB]at hK;refine⟨.func (.func f) #[] (caps.map a.eval),_,.clo f ?_ (fun i x u hx hu=>h1.at_ i x u hx ?_),hK,fun w' _=>?_⟩
 ·have:=h1.len;simpa using this
 ·rw[←aX,Array.toList_map]at hu;exact hu
 ·unfold execOp;simp[ho,Instr.makeFunc]
theorem Ku {f:Nat}{caps:Array Operand}{caps':List XA}(ho:o.op=.makeFunc (.func f) caps #[]) (hc:Hk caps.toList=some caps'):dM P o (.mkn f caps'):=by
 intro C st a w r pub keep al K h hK;have h1:=h.evs hc;simp only[dB]at hK;refine⟨.func (.func f) (caps.map a.eval) #[],_,.mth f ?_ (fun i x u hx hu=>h1.at_ i x u hx ?_),hK,fun w' _=>?_⟩
 ·have:=h1.len;simpa using this
 ·rw[←aX,Array.toList_map]at hu;exact hu
 ·unfold execOp;simp[ho,Instr.makeFunc]
theorem G5 {x:Operand}{x':XA}{t:TypeId}(hd:P.underlying t=some .string) (ho:o.op=.call ⟨.builtin .len,#[x],#[t]⟩) (hx:cA x=some x'):dM P o (.lens x'):=by
 intro C st a w r pub keep al K h hK;have h1:=h.ev hx;simp only[dB]at hK;generalize hcv:st.ev x'=cv at hK h1;generalize hv:a.eval x=v at h1;cases h1 with
 |str s1=>
  refine⟨_,_,.int _ _,hK.rest _ rfl,fun w' _=>?_⟩;unfold execOp;simp[ho,resolve,hv,invoke,builtin,Sem.run_bind,Builtin.len_,run_underlying hd,goInt]
 |_=>exact hK.elim
theorem Gu {x:Operand}{x':XA}{t e:TypeId}(hd:P.underlying t=some (.slice e)) (ho:o.op=.call ⟨.builtin .len,#[x],#[t]⟩) (hx:cA x=some x'):dM P o (.lenl x'):=by
 intro C st a w r pub keep al K h hK;have h1:=h.rd hx;simp only[dB]at hK;generalize hcv:st.rd x'=cv at hK h1;generalize hv:a.eval x=v at h1;have run:∀A n c,v=.slice A n c→∀w':World,(execOp a.eval o).run P w'=.ok (.value (.int .i64 n)) w':=fun A n c hA w'=>by
  subst hA;unfold execOp;simp[ho,resolve,hv,invoke,builtin,Sem.run_bind,Builtin.len_,run_underlying hd,goInt]
 cases h1 with
 |sl hc hm hn hs g hr hg=>exact⟨_,_,.int _ _,hK.rest _ rfl,fun w' _=>run _ _ _ rfl w'⟩
 |v hz=>
  cases v with
  |slice A n c=>
   cases A with
   |none=>
    cases n with
    |zero=>
     cases c with
     |zero=>exact⟨_,_,.int _ _,hK,fun w' _=>run _ _ _ rfl w'⟩
     |succ _=>exact hK.elim
    |succ _=>exact hK.elim
   |some _=>exact hK.elim
  |_=>exact hK.elim
 |@hd _ k _ hr _=>
  try dsimp only at hK
  cases hk:st.H[k]? with
  |none=>rw[hk]at hK;exact hK.elim
  |some e=>
   rw[hk]at hK;cases e with
   |row t sz xs=>
    obtain⟨A,c,us,hr2,_⟩:=h.ent_row hk;rw[hr2]at hr;cases hr;exact⟨_,_,.int _ _,hK.rest _ rfl,fun w' _=>run _ _ _ rfl w'⟩
   |hrow t sz n cs=>
    obtain⟨A,c,us,hr2,_⟩:=h.ent_hrow hk;rw[hr2]at hr;cases hr;exact⟨_,_,.int _ _,hK,fun w' _=>run _ _ _ rfl w'⟩
   |_=>exact hK.elim
 |_=>exact hK.elim
theorem Hb {x:Operand}{x':XA}{t k' e':TypeId}(hd:P.underlying t=some (.map k' e')) (ho:o.op=.call ⟨.builtin .len,#[x],#[t]⟩) (hx:cA x=some x'):dM P o (.lenm x'):=by
 intro C st a w r pub keep al K h hK;have h1:=h.ev hx;simp only[dB]at hK;have hrd:(fT.lenm x').reads st=(match st.ev x' with|.hd k=>[k]|.ph k=>[k]|_=>[]):=rfl;generalize hcv:st.ev x'=cv at hK h1 hrd;generalize hv:a.eval x=v at h1;cases h1 with
 |@hd _ k _ hr _=>
  try dsimp only at hK
  cases hk:st.H[k]? with
  |none=>rw[hk]at hK;exact hK.elim
  |some e=>
   rw[hk]at hK;cases e with
   |map t es=>
    have he:=h.mod.ent k _ hk;rw[hr]at he;cases he with
    |@map _ _ _ b ms clock hb hl _ _ _ _=>
     refine⟨_,_,.int _ _,hK.rest _ rfl,fun w' hw'=>?_⟩;have hb':w'.heap[b]?=some (.map ms clock):=((hw' rfl).ent k (by rw[hrd];simp) _ hr b (by simp[bY])).trans hb;unfold execOp;simp[ho,resolve,hv,invoke,builtin,Sem.run_bind,Builtin.len_,run_underlying hd,goInt,getObj,Sem.run,hb',hl]
   |_=>exact hK.elim
 |@ph _ k arr _ hr h0 _=>
  try dsimp only at hK
  cases hk:st.H[k]? with
  |none=>rw[hk]at hK;exact hK.elim
  |some e=>
   rw[hk]at hK;cases e with
   |pool t es outs=>
    obtain⟨b,ms,inner,hr2,R⟩:=h.ent_pool hk;obtain⟨a0,ha0,ha1⟩:=dO b inner;have hb0:=hr.symm.trans hr2;rw[ha0]at hb0;cases hb0;rw[ha1]at h0;cases h0;refine⟨_,_,.int _ _,hK.rest _ rfl,fun w' hw'=>?_⟩;have hb':w'.heap[b]?=some (.map ms ms.size):=((hw' rfl).ent k (by rw[hrd];simp) _ hr2 b (by rw[dA];simp)).trans R.hb;unfold execOp;simp[ho,resolve,hv,invoke,builtin,Sem.run_bind,Builtin.len_,run_underlying hd,goInt,getObj,Sem.run,hb',R.hl]
   |_=>exact hK.elim
 |_=>exact hK.elim
theorem I1 {x y:Operand}{x' y':XA}{t e:TypeId}{i:TypeInfo}(hd:P.underlying t=some (.slice e)) (hi:P.info? e=some i) (hz0:i.size≠0) (ho:o.op=.indexAddr t x y) (hx:cA x=some x') (hy:cA y=some y'):dM P o (.iad i.size x' y'):=by
 intro C st a w r pub keep al K h hK;have h1:=h.rd hx;have h2:=h.ev hy;simp only[dB]at hK;generalize hcv:st.rd x'=cv at hK h1;generalize hcu:st.ev y'=cu at hK h2;generalize hv:a.eval x=v at h1;generalize hu:a.eval y=u at h2;cases h2 with
 |int k m=>
  try dsimp only at hK
  have run:∀b off n c (j:Nat),v=.slice (some ⟨b,off,none⟩) n c→m=j→j < n→∀w':World,(execOp a.eval o).run P w'=.ok (.value (.pointer (some ⟨b,off+j * i.size,none⟩))) w':=fun b off n c j hA hm hj w'=>by
   subst hA hm;unfold execOp;simp[ho,hv,hu,Instr.indexAt,asIntOf,Sem.run_bind,run_underlying hd,hj,sizeOf,typeInfo,hi,Addr.add_lit]
  cases h1 with
  |@sl _ sz xs A c hc hm hn hs g hr hg=>
   obtain⟨rfl,j,z,rfl,hz,hK⟩:=hK;have hj:=(aA.1 hz).1;have hzl:=(hs z (aC hz)).1;have h0:z.cells[0]?=some (z.cells[0]'(by omega)):=aB _;obtain⟨b,off,rfl,_,_⟩:=hg j z 0 _ hz h0;have key:∀(q:Nat) (u:AV),z.cells[q]?=some u→off+j * i.size+q < pub b∧w.cell? ⟨b,off+j * i.size+q,none⟩=some (g j q):=fun q u hq=>by
    obtain⟨b',off',hA,hp,hc2⟩:=hg j z q u hz hq;simp only[bD,Addr.mk.injEq,and_true]at hA;obtain⟨rfl,rfl⟩:=hA;exact⟨hp,hc2⟩
   exact⟨_,_,.rp 0 (hs z (aC hz)).2 (g j) (fun q u hq=>hr j z q u hz hq) key,hK,fun w' _=>by rw[run _ _ _ _ j rfl rfl hj w'];rfl⟩
  |@hd _ k _ hr _=>
   try dsimp only at hK
   cases hk:st.H[k]? with
   |none=>rw[hk]at hK;exact hK.elim
   |some e=>
    rw[hk]at hK;cases e with
    |row t sz xs=>
     obtain⟨rfl,j,rfl,hj,hK⟩:=hK;obtain⟨A,c,us,hr2,ho',_,hs,_⟩:=h.ent_row hk;rw[hr2]at hr;cases hr;rcases ho'.cases_ with ⟨_,h0,_⟩|⟨g,cur,rfl,_⟩
     ·omega
     ·exact⟨_,_,.re _ j 0 hr2,hK,fun w' _=>by rw[run _ _ _ _ j rfl rfl hj w'];simp⟩
    |hrow t sz n cs=>
     obtain⟨rfl,⟨hm0,hj⟩,hK⟩:=hK;have hj:m.toNat < n:=by omega
     obtain⟨A,c,us,hr2,ho',_⟩:=h.ent_hrow hk;rw[hr2]at hr;cases hr;rcases ho'.cases_ with ⟨_,h0,_⟩|⟨g,cur,rfl,_⟩
     ·omega
     ·exact⟨_,_,.re _ m.toNat 0 hr2,hK,fun w' _=>by rw[run _ _ _ _ m.toNat rfl (by omega) hj w'];simp⟩
    |_=>exact hK.elim
  |_=>exact hK.elim
 |_=>exact hK.elim
end
section
variable {P:bG}{o:Oper}
theorem Jm {x y:Operand}{x' y':XA}{t:TypeId}(hd:P.underlying t=some .string) (ho:o.op=.index t x y) (hx:cA x=some x') (hy:cA y=some y'):dM P o (.idx x' y'):=by
 intro C st a w r pub keep al K h hK;have h1:=h.ev hx;have h2:=h.ev hy;simp only[dB]at hK;generalize hcv:st.ev x'=cv at hK h1;generalize hcu:st.ev y'=cu at hK h2;generalize hv:a.eval x=v at h1;generalize hu:a.eval y=u at h2;cases h1 with
 |str s=>
  cases h2 with
  |int k m=>
   obtain⟨j,rfl,hj,hK⟩:=hK;have hb:s.data[j]?=some (s.data[j]'hj):=aK hj;refine⟨_,_,.int _ _,hK _ hb _ rfl,fun w' _=>?_⟩;have hs:s[j]?=some (s.data[j]'hj):=by
    show (if h:j < s.size then some (s[j]'h) else none)=_;rw[dif_pos hj];rfl
   unfold execOp;simp[ho,hv,hu,Instr.index,asIntOf,Sem.run_bind,run_underlying hd,hs]
  |_=>exact hK.elim
 |_=>exact hK.elim
theorem sE {C:kN}{st:St}{a:Act}{w:World}{r:cF}{pub:cI}(h:bM C st a w r pub) {lo:Option Operand}{lo':Option XA}(hl:lo'=lo.bind cA) (hln:lo'.isSome=lo.isSome) {K:Option Int→Prop}(hK:rY st lo' K) :
  ∃l,K l∧((lo=none∧l=none)∨∃q k n,lo=some q∧l=some n∧a.eval q=.int k n):=by
 cases lo with
 |none=>subst hl;exact⟨none,hK,.inl ⟨rfl,rfl⟩⟩
 |some q=>
  simp only[Option.bind_some]at hl;cases hq:cA q with
  |none=>rw[hq]at hl;subst hl;cases hln
  |some z=>
   rw[hq]at hl;subst hl;have hz:=h.ev hq;unfold rY at hK;dsimp only at hK;generalize hv:a.eval q=v at hz;generalize st.ev z=e at hK hz;cases hz with
   |int k n=>exact⟨some n,hK,.inr ⟨q,k,n,rfl,rfl,hv⟩⟩
   |_=>exact hK.elim
theorem sF {a:Act}{lo:Option Operand}{l:Option Int}(h:(lo=none∧l=none)∨∃q k n,lo=some q∧l=some n∧a.eval q=.int k n) (d:Int):(lo=none∧l.getD d=d)∨∃q k,lo=some q∧a.eval q=.int k (l.getD d):=by
 rcases h with ⟨rfl,rfl⟩|⟨q,k,n,rfl,rfl,h⟩
 ·exact .inl ⟨rfl,rfl⟩
 ·exact .inr ⟨q,k,rfl,h⟩
theorem oH {a:Act}{isSlice:Bool}{len cap:Nat}{lo hi:Option Operand}{l hh:Int}(h1:(lo=none∧l=0)∨∃q k,lo=some q∧a.eval q=.int k l) (h2:(hi=none∧hh=len)∨∃q k,hi=some q∧a.eval q=.int k hh)
  (h0:0≤l) (hl:l≤hh) (hc:hh≤len) (hlc:len≤cap) (w:World):(Instr.sliceBounds isSlice len cap (lo.map a.eval) (hi.map a.eval) none).run P w=.ok (l.toNat,hh.toNat,cap) w:=by
 unfold Instr.sliceBounds;have hb1:0≤hh:=by omega
 have hb2:hh≤(cap:Int):=by omega
 have hb3:l≤(hh.toNat:Int):=by omega
 rcases h2 with ⟨rfl,rfl⟩|⟨q2,k2,rfl,e2⟩<;>rcases h1 with ⟨rfl,rfl⟩|⟨q1,k1,rfl,e1⟩
 ·simp
 ·simp[e1,Instr.sliceBound,asIntOf,h0,hl]
 ·simp[e2,Instr.sliceBound,asIntOf,hb1,hb2]
 ·simp[e1,e2,Instr.sliceBound,asIntOf,h0,hb1,hb2];omega
theorem aeX {x:Operand}{x':XA}{lo hi:Option Operand}{lo' hi':Option XA}{t:TypeId}(hd:P.underlying t=some .string) (ho:o.op=.slice t x lo hi none) (hx:cA x=some x')
  (hl:lo'=lo.bind cA) (hln:lo'.isSome=lo.isSome) (hh:hi'=hi.bind cA) (hhn:hi'.isSome=hi.isSome):dM P o (.sls x' lo' hi'):=by
 intro C st a w r pub keep al K h hK;have h1:=h.ev hx;simp only[dB]at hK;generalize hcv:st.ev x'=cv at hK h1;generalize hv:a.eval x=v at h1;cases h1 with
 |str s=>
  obtain⟨l,hK,h3⟩:=sE h hl hln hK;obtain⟨q,hK,h4⟩:=sE h hh hhn hK;obtain⟨⟨b0,b1,b2⟩,hK⟩:=hK;refine⟨_,_,.str _,hK _ rfl,fun w' _=>?_⟩;have:=oH (P:=P) (isSlice:=false) (cap:=s.size) (sF h3 0) (sF h4 s.size) b0 b1 b2 (aN _) w';unfold execOp;simp[ho,hv,Instr.sliceAt,Instr.slice,Sem.run_bind,run_underlying hd,this]
 |_=>exact hK.elim
theorem BH {x:Operand}{x':XA}{lo hi:Option Operand}{lo' hi':Option XA}{t e:TypeId}{i:TypeInfo}(hd:P.underlying t=some (.slice e)) (hi0:P.info? e=some i) (_hz0:i.size≠0) (ho:o.op=.slice t x lo hi none) (hx:cA x=some x')
  (hl:lo'=lo.bind cA) (hln:lo'.isSome=lo.isSome) (hh:hi'=hi.bind cA) (hhn:hi'.isSome=hi.isSome):dM P o (.sli i.size x' lo' hi'):=by
 intro C st a w r pub keep al K h hK;have h1:=h.rd hx;simp only[dB]at hK;generalize hcv:st.rd x'=cv at hK h1;generalize hv:a.eval x=v at h1;have h1':=h1;cases h1 with
 |@sl _ sz xs A c hc hm hn hs g hr hg=>
  obtain⟨rfl,hK⟩:=hK;obtain⟨l,hK,h3⟩:=sE h hl hln hK;obtain⟨q,hK,h4⟩:=sE h hh hhn hK;obtain⟨⟨b0,b1,b2⟩,hK⟩:=hK;have hK:=hK _ rfl;have hb:=fun w'=>oH (P:=P) (isSlice:=true) (cap:=c) (sF h3 0) (sF h4 xs.length) b0 b1 b2 hc w'
  generalize hln:(l.getD 0).toNat=ln at hK hb;generalize hqn:(q.getD (xs.length:Int)).toNat=qn at hK hb;have hlq:ln≤qn:=by omega
  have hqx:qn≤xs.length:=by omega
  refine⟨.slice (if c=ln then A else A.map (·.add (ln * i.size))) (qn - ln) (c - ln),_,?_,hK,fun w' _=>?_⟩
  ·have hlen:((xs.take qn).drop ln).length=qn - ln:=by simp;omega
   have hs2:∀x∈(xs.take qn).drop ln,x.cells.length=i.size∧x.cells.all AV.one=true:=fun x hx=>hs x (List.mem_of_mem_take (List.mem_of_mem_drop hx))
   have:=bS.sl (pub:=pub) (w:=w) (r:=r) (sz:=i.size) (xs:=(xs.take qn).drop ln) (A:=if c=ln then A else A.map (·.add (ln * i.size))) (c:=c - ln) (by omega) (by omega) (fun hA=>?_) hs2 (fun a b=>g (ln+a) b) (fun p x j u hx hu=>?_) (fun p x j u hx hu=>?_)
   ·rw[hlen]at this;exact this
   ·have hA':A=none:=by
     split at hA
     ·exact hA
     ·cases A with
      |none=>rfl
      |some _=>cases hA
    obtain⟨rfl,rfl⟩:=hn hA';simp
   ·rw[List.getElem?_drop,List.getElem?_take]at hx
    split at hx
    ·exact hr _ x j u hx hu
    ·cases hx
   ·have hpl:=(aA.1 hx).1;rw[hlen]at hpl;rw[List.getElem?_drop,List.getElem?_take]at hx
    split at hx
    ·obtain⟨b,off,rfl,hp,hc2⟩:=hg _ x j u hx hu;rw[aE (by omega)];refine⟨b,off+ln * i.size,by simp[Addr.add_lit],?_⟩;have e1:off+ln * i.size+p * i.size+j=off+(ln+p) * i.size+j:=by rw[Nat.add_mul];omega
     rw[e1];exact⟨hp,hc2⟩
    ·cases hx
  ·unfold execOp;simp[ho,hv,Instr.sliceAt,Instr.slice,Sem.run_bind,run_underlying hd,hb,sizeOf,typeInfo,hi0]
 |_=>exact hK.elim
theorem Lz {t:TypeId}{i:TypeInfo}{x:Operand}{a:Act}(hi:P.info? t=some i) (ha:iZ P t=some true) (ho:o.op=.load t x) {b off:Nat}(hv:a.eval x=.pointer (some ⟨b,off,none⟩)) (us:List Value) (hu:us.length=i.size) (w:World)
  (hc:∀j u,us[j]?=some u→w.cell? ⟨b,off+j,none⟩=some u):(execOp a.eval o).run P w=.ok (.value (.agg us.toArray)) w:=by
 have hl:(loadCells ⟨b,off,none⟩ us.length).run P w=.ok us.toArray w:=run_loadCells_list (P:=P) w ⟨b,off,none⟩ us (fun j v hv=>by rw[Addr.add_lit];exact hc j v hv);unfold execOp;simp[ho,hv,Instr.loadAt,Instr.sureAddr,loadVar,Sem.run_bind,fD ha,sizeOf,typeInfo,hi,←hu,hl]
theorem Jr {t:TypeId}{x:Operand}{a:Act}(ha:iZ P t=some false) (ho:o.op=.load t x) {b off:Nat}(hv:a.eval x=.pointer (some ⟨b,off,none⟩)) (u:Value) (w:World)
  (hc:w.cell? ⟨b,off,none⟩=some u):(execOp a.eval o).run P w=.ok (.value u) w:=by
 unfold execOp;simp[ho,hv,Instr.loadAt,Instr.sureAddr,loadVar,Sem.run_bind,fD ha,run_load,hc]
theorem pG {pub:cI}{w:World}{r:cF}{t:TypeId}{i:TypeInfo}{ag:Bool}{x:Operand}{a:Act}{d:Option Nat}{st:St}{K:St→Prop}{l:List Nat}{p:Bool}(hi:P.info? t=some i) (ha:iZ P t=some ag) (h1:ag=false→i.size=1) (ho:o.op=.load t x) {b off j:Nat}
  (hv:a.eval x=.pointer (some ⟨b,off+j,none⟩)) (cs:List AV) (g:Nat→Value) (hr:∀q u,cs[q]?=some u→bS pub w r u (g q)) (hc:∀w',oG l p r pub w w'→∀q u,cs[q]?=some u→w'.cell? ⟨b,off+q,none⟩=some (g q))
  (hK:if ag=true then j+i.size≤cs.length∧K (st.put d (.agg ((cs.drop j).take i.size))) else match cs[j]? with
    |some x=>K (st.put d x)
    |none=>False) :
  ∃v y,bS pub w r y v∧K (st.put d y)∧∀w',oG l p r pub w w'→(execOp a.eval o).run P w'=.ok (.value v) w':=by
 cases ag with
 |true=>
  simp only[if_true]at hK;refine⟨.agg ((List.range i.size).map fun q=>g (j+q)).toArray,_,.agg ?_ (fun q y u hy hu=>?_),hK.2,fun w' hw'=>?_⟩
  ·simp;omega
  ·rw[List.getElem?_take]at hy
   split at hy
   ·rename_i hq;rw[List.getElem?_drop]at hy;rw[List.getElem?_toArray,aD,List.getElem?_range hq]at hu;cases hu;exact hr _ y hy
   ·cases hy
  ·refine Lz hi ha ho hv _ (by simp) w' (fun q u hu=>?_);rw[aD]at hu;cases hq:(List.range i.size)[q]? with
   |none=>rw[hq]at hu;cases hu
   |some q'=>
    have hql:=(aA.1 hq).1;rw[List.length_range]at hql;rw[List.getElem?_range hql]at hq;cases hq;rw[List.getElem?_range hql]at hu;cases hu;rw[Nat.add_assoc];exact hc w' hw' (j+q) _ (aB (by omega))
 |false=>
  simp only[aY,if_false]at hK;cases hy:cs[j]? with
  |none=>rw[hy]at hK;exact hK.elim
  |some y=>
   rw[hy]at hK;exact⟨g j,y,hr _ _ hy,hK,fun w' hw'=>Jr ha ho hv _ w' (hc w' hw' j y hy)⟩
theorem NN {x:Operand}{x':XA}{t:TypeId}{i:TypeInfo}{ag:Bool}(hi:P.info? t=some i) (ha:iZ P t=some ag) (h1:ag=false→i.size=1) (ho:o.op=.load t x) (hx:cA x=some x'):dM P o (.ld ag i.size x'):=by
 intro C st a w r pub keep al K h hK;have hv1:=h.ev hx;simp only[dB]at hK;have hrd:(fT.ld ag i.size x').reads st=(match st.ev x' with|.ptr k _=>[k]|.re k _ _ _=>[k]|_=>[]):=rfl;have hpb:(fT.ld ag i.size x').pubs st=(match st.ev x' with|.rp _ _=>true|_=>false):=rfl;have fin:(∃v y,bS pub w r y v∧K (st.put o.dst y)∧∀w',oG ((fT.ld ag i.size x').reads st) ((fT.ld ag i.size x').pubs st) r pub w w'→(execOp a.eval o).run P w'=.ok (.value v) w') →
   ∃v y,bS pub w r y v∧K (st.put o.dst y)∧∀w',((fT.ld ag i.size x').loads=true→oG ((fT.ld ag i.size x').reads st) ((fT.ld ag i.size x').pubs st) r pub w w')→(execOp a.eval o).run P w'=.ok (.value v) w':=
  fun⟨v,y,h1,h2,h3⟩=>⟨v,y,h1,h2,fun w' hw'=>h3 w' (hw' rfl)⟩
 apply fin;clear fin;generalize hcv:st.ev x'=cv at hK hv1 hrd hpb;generalize hv:a.eval x=v at hv1;cases hv1 with
 |@ptr _ k b off hr=>
  try dsimp only at hK
  cases hk:st.H[k]? with
  |none=>rw[hk]at hK;exact hK.elim
  |some e=>
   rw[hk]at hK;cases e with
   |blk t' cs=>
    obtain⟨b',arr,hr2,hb,hc,_⟩:=h.ent_blk hk;rw[hr2]at hr;simp only[bD,Value.pointer.injEq,Addr.mk.injEq,and_true]at hr;subst hr;refine pG (off:=0) (j:=off) hi ha h1 ho (by simpa using hv) cs (fun q=>arr.toList.getD q undef) (fun q u hq=>?_) (fun w' hw' q u hq=>?_) hK
    ·obtain⟨z,hz,hvz⟩:=hc.get hq;rw[List.getD_eq_getElem?_getD,hz];exact hvz
    ·obtain⟨z,hz,hvz⟩:=hc.get hq;have hb':gF w' b' t' arr:=(hw'.ent k (by rw[hrd];simp) _ hr2 b' (by simp[bY])).trans hb;rw[hb'.all,List.getD_eq_getElem?_getD,hz,←aX,Nat.zero_add,hz];rfl
   |_=>exact hK.elim
 |@rp _ cs b off j ho' g hr hg=>
  exact pG hi ha h1 ho hv cs g (fun q u hq=>(hr q u hq).mono (fun n y hn=>by cases hn)) (fun w' hw' q u hq=>hw'.cell (by rw[hpb]) _ _ _ (hg q u hq).1 (hg q u hq).2) hK
 |@re _ k b n c sz m j hr=>
  try dsimp only at hK
  cases hk:st.H[k]? with
  |none=>rw[hk]at hK;exact hK.elim
  |some e=>
   rw[hk]at hK;cases e with
   |row t' sz' xs=>
    obtain⟨rfl,q0,u0,hq0,hu0,hK⟩:=hK;obtain rfl:m=q0:=by omega
    obtain⟨A,c2,us,hr2,ho',hc,hs,_⟩:=h.ent_row hk;rw[hr2]at hr;simp only[bD,Value.slice.injEq]at hr;obtain⟨rfl,rfl,rfl⟩:=hr;refine pG (off:=m * sz') (j:=j) hi ha h1 ho (by simpa using hv) u0.cells (fun q=>us.getD (m * sz'+q) undef) (fun q u hq=>?_) (fun w' hw' q u hq=>?_) hK
    ·obtain⟨z,hz,hvz⟩:=hc.get (oW xs (fun z hz=>(hs z hz).1) hu0 hq);rw[List.getD_eq_getElem?_getD,hz];exact hvz.mono (fun n y hn=>by cases hn)
    ·obtain⟨z,hz,hvz⟩:=hc.get (oW xs (fun z hz=>(hs z hz).1) hu0 hq);obtain⟨b',off',hA,hcell⟩:=ho'.cells_.get _ _ hz;simp only[bD,Addr.mk.injEq,and_true]at hA;obtain⟨rfl,rfl⟩:=hA;rw[Nat.zero_add]at hcell;have hb':w'.heap[b]?=w.heap[b]?:=hw'.ent k (by rw[hrd];simp) _ hr2 b (by simp[bY]);rw[World.cell?_of_block (w:=w) (a:=⟨b,m * sz'+q,none⟩) hb',hcell,List.getD_eq_getElem?_getD,hz];rfl
   |hrow t' sz' n' cs=>
    obtain⟨rfl,hK⟩:=hK;obtain⟨A,c2,us,hr2,ho',hc⟩:=h.ent_hrow hk;rw[hr2]at hr;simp only[bD,Value.slice.injEq]at hr;obtain⟨rfl,rfl,rfl⟩:=hr;refine pG (off:=0) (j:=m * sz'+j) hi ha h1 ho (by simpa using hv) cs (fun q=>us.getD q undef) (fun q u hq=>?_) (fun w' hw' q u hq=>?_) hK
    ·obtain⟨z,hz,hvz⟩:=hc.get hq;rw[List.getD_eq_getElem?_getD,hz];exact hvz
    ·obtain⟨z,hz,hvz⟩:=hc.get hq;obtain⟨b',off',hA,hcell⟩:=ho'.cells_.get _ _ hz;simp only[bD,Addr.mk.injEq,and_true]at hA;obtain⟨rfl,rfl⟩:=hA;rw[Nat.zero_add]at hcell;have hb':w'.heap[b]?=w.heap[b]?:=hw'.ent k (by rw[hrd];simp) _ hr2 b (by simp[bY]);rw[World.cell?_of_block (w:=w) (a:=⟨b,0+q,none⟩) hb',Nat.zero_add,hcell,List.getD_eq_getElem?_getD,hz];rfl
   |_=>exact hK.elim
 |_=>exact hK.elim
theorem B5 {x y:Operand}{x' y':XA}{t t':TypeId}{op:BinOp}{k:IntKind}(hop:op=.shl∨op=.shr) (ho:o.op=.binOp op t x y t') (hx:cA x=some x') (hy:cA y=some y'):dM P o (.shf op k x' y'):=by
 intro C st a w r pub keep al K h hK;have h1:=h.ev hx;have h2:=h.ev hy;simp only[dB]at hK;generalize hcv:st.ev x'=cv at hK h1;generalize hcu:st.ev y'=cu at hK h2;generalize hv:a.eval x=v at h1;generalize hu:a.eval y=u at h2;cases h1 with
 |int k1 m=>
  cases h2 with
  |int k2 n=>
   obtain⟨rfl,h0,hK⟩:=hK;have hg:∀w':World,(eqGuard op t x y (.int k1 m) (.int k2 n)).run P w'=.ok () w':=fun w'=>by unfold eqGuard;rcases hop with rfl|rfl<;>rfl
   have hn:¬n < 0:=by omega
   refine⟨_,_,.int _ _,hK _ rfl,fun w' _=>?_⟩;unfold execOp;rcases hop with rfl|rfl<;>simp[ho,hv,hu,Sem.run_bind,hg w',binOp,Op.shift,hn]
  |_=>exact hK.elim
 |_=>exact hK.elim
theorem tX:∀{n:Nat}{i:Int}{K:Nat→Prop},pX n i K→∀{m:Nat},m < n→i=m→K m
 |0,_,_,_,m,hm,_=>by omega
 |1,_,K,h,m,hm,_=>by
  obtain rfl:m=0:=by omega
  exact h
 |n+2,i,K,h,m,hm,e=>by
  by_cases h1:m=n+1
  ·subst h1;exact h.yes e
  ·exact tX (h.no (by show i≠((n+1:Nat):Int);omega)) (by omega) e
theorem Je {x y:Operand}{x' y':XA}{t e:TypeId}{n:Nat}{i:TypeInfo}{ag:Bool}(hd:P.underlying t=some (.array n e)) (hi:P.info? e=some i) (ha:iZ P e=some ag) (h1:ag=false→i.size=1) (ho:o.op=.index t x y) (hx:cA x=some x') (hy:cA y=some y'):dM P o (.aix ag i.size n x' y'):=by
 intro C st a w r pub keep al K h hK;have hv1:=h.ev hx;have hv2:=h.ev hy;simp only[dB]at hK;generalize hcv:st.ev x'=cv at hK hv1;generalize hcu:st.ev y'=cu at hK hv2;generalize hv:a.eval x=v at hv1;generalize hu:a.eval y=u at hv2;cases hv1 with
 |@agg _ cs arr hl hc=>
  cases hv2 with
  |int k m=>
   obtain⟨hcl,⟨hm0,hmn⟩,hK⟩:=hK;obtain⟨j,rfl⟩:=Int.eq_ofNat_of_zero_le hm0;have hjn:j < n:=by omega
   have hK:=tX hK hjn rfl;have hlast:j * i.size+i.size≤n * i.size:=by
    have:=Nat.mul_le_mul_right i.size (show j+1≤n by omega);rw[Nat.succ_mul]at this;exact this
   cases ag with
   |true=>
    simp only[if_true]at hK;refine⟨.agg (arr.extract (j * i.size) (j * i.size+i.size)),_,.agg ?_ (fun q y u hy hu=>?_),hK,fun w' _=>?_⟩
    ·simp[hl];omega
    ·rw[List.getElem?_take]at hy
     split at hy
     ·rw[List.getElem?_drop]at hy;rw[Array.getElem?_extract]at hu
      split at hu
      ·exact hc _ y u hy hu
      ·cases hu
     ·cases hy
    ·unfold execOp;simp[ho,hv,hu,Instr.index,asIntOf,Sem.run_bind,run_underlying hd,hjn,part,fD ha,sizeOf,typeInfo,hi]
   |false=>
    simp only[aY,if_false]at hK;have hs1:=h1 rfl;cases hy:cs[j * i.size]? with
    |none=>rw[hy]at hK;exact hK.elim
    |some y=>
     rw[hy]at hK;have hlt:j * i.size < arr.size:=by rw[hl];exact(aA.1 hy).1
     refine⟨arr[j * i.size],y,hc _ _ _ hy (aK hlt),hK,fun w' _=>?_⟩;unfold execOp;simp[ho,hv,hu,Instr.index,asIntOf,Sem.run_bind,run_underlying hd,hjn,part,fD ha,sizeOf,typeInfo,hi,aK hlt]
  |_=>exact hK.elim
 |_=>cases hv2<;>exact hK.elim
theorem LK {x y:Operand}{x' y':XA}{t e:TypeId}{n:Nat}{i:TypeInfo}(hd:P.underlying t=some (.array n e)) (hi:P.info? e=some i) (ho:o.op=.indexAddr t x y) (hx:cA x=some x') (hy:cA y=some y'):dM P o (.aia i.size n x' y'):=by
 intro C st a w r pub keep al K h hK;have hv1:=h.ev hx;have hv2:=h.ev hy;simp only[dB]at hK;generalize hcv:st.ev x'=cv at hK hv1;generalize hcu:st.ev y'=cu at hK hv2;generalize hv:a.eval x=v at hv1;generalize hu:a.eval y=u at hv2;cases hv2 with
 |int k m=>
  have run:∀b off (j:Nat),v=.pointer (some ⟨b,off,none⟩)→m=j→j < n→∀w':World,(execOp a.eval o).run P w'=.ok (.value (.pointer (some ⟨b,off+j * i.size,none⟩))) w':=fun b off j hA hm hj w'=>by
   subst hA hm;unfold execOp;simp[ho,hv,hu,Instr.indexAt,Instr.sureAddr,asIntOf,Sem.run_bind,run_underlying hd,hj,sizeOf,typeInfo,hi,Addr.add_lit]
  cases hv1 with
  |ptr off hr=>
   obtain⟨⟨hm0,hmn⟩,hK⟩:=hK;obtain⟨j,rfl⟩:=Int.eq_ofNat_of_zero_le hm0;exact⟨_,_,.ptr _ hr,tX hK (by omega) rfl,fun w' _=>run _ _ j rfl rfl (by omega) w'⟩
  |@rp _ cs b o' q ho' g h1 h2=>
   obtain⟨⟨hm0,hmn⟩,hK⟩:=hK;obtain⟨j,rfl⟩:=Int.eq_ofNat_of_zero_le hm0;exact⟨_,_,.rp _ ho' g h1 h2,tX hK (by omega) rfl,fun w' _=>by rw[run _ _ j rfl rfl (by omega) w',Nat.add_assoc]⟩
  |@re _ k b n' c sz i' q hr=>
   obtain⟨⟨hm0,hmn⟩,hK⟩:=hK;obtain⟨j,rfl⟩:=Int.eq_ofNat_of_zero_le hm0;exact⟨_,_,.re sz i' _ hr,tX hK (by omega) rfl,fun w' _=>by rw[run _ _ j rfl rfl (by omega) w',Nat.add_assoc]⟩
  |_=>exact hK.elim
 |_=>exact hK.elim
def uK:TypeDesc→Option Nat
 |.int _=>some 0
 |.string=>some 1
 |.bool=>some 2
 |_=>none
def kJ (P:bG):List Field→Nat→Option (List Nat)
 |[],_=>some []
 | f :: fs, i => if f.name ≠ "_" ∧ f.offset = i then match (P.underlying f.type).bind uK, kJ P fs (i + 1) with
  |some k,some ks=>some (k :: ks)
  |_,_=>none
  else none
theorem mC {pub:cI}{w:World}{r:cF}(d:Nat) (w':World) {xs ys:Array Value}:∀(fs:List Field) (i:Nat) (ks:List Nat) (l m:List AV),kJ P fs i=some ks→gZ ks l m=true→bO pub w r l (xs.toList.drop i)→bO pub w r m (ys.toList.drop i) →
  ∃b,(Op.eqFields (d+1) xs ys fs).run P w'=.ok b w'∧(b=true↔iP l m)
 |[],i,ks,l,m,hf,hok,_,_=>by
  cases hf;cases l<;>cases m<;>simp[gZ]at hok;exact⟨true,by simp[Op.eqFields],by simp[iP]⟩
 |f :: fs,i,ks,l,m,hf,hok,hx,hy=>by
  unfold kJ at hf
  split at hf
  ·rename_i hno;obtain⟨hname,hoff⟩:=hno
   split at hf
   ·rename_i k ks' hk hks;cases hf;cases hd:P.underlying f.type with
    |none=>rw[hd]at hk;cases hk
    |some d0=>
     rw[hd]at hk;simp only[Option.bind_some]at hk;have hrow:iZ P f.type=some false:=by
      unfold iZ;rw[hd];cases d0<;>simp[uK]at hk<;>rfl
     have tl:∀{zs:Array Value}{z:Value}{q:List Value},zs.toList.drop i=z :: q→zs[i]?=some z∧zs.toList.drop (i+1)=q:=fun {zs z q} h=>by
      refine⟨?_,?_⟩
      ·have:=congrArg (fun l=>l[0]?) h;simpa using this
      ·rw[←List.drop_drop,h];rfl
     have pr:∀{zs:Array Value}{z:Value},zs[i]?=some z→(part f.type zs f.offset).run P w'=.ok z w':=fun {zs z} hz=>by
      rw[hoff];simp[part,Sem.run_bind,fD hrow,hz]
     have step:∀(x y:AV) (l m:List AV) (p:Prop),bO pub w r (x :: l) (xs.toList.drop i)→bO pub w r (y :: m) (ys.toList.drop i)→gZ ks' l m=true →
       (∀u v,bS pub w r x u→bS pub w r y v→∃q,(Op.equalIn (d+1) f.type u v).run P w'=.ok q w'∧(q=true↔p))→∃b,(Op.eqFields (d+1) xs ys (f :: fs)).run P w'=.ok b w'∧(b=true↔p∧iP l m):=fun x y l m p hx hy ho hq=>by
      obtain⟨u,us,hu,hxu,hxs⟩:=hx.cons_inv;obtain⟨v,vs,hv,hyv,hys⟩:=hy.cons_inv;obtain⟨hu1,hu2⟩:=tl hu;obtain⟨hv1,hv2⟩:=tl hv;rw[←hu2]at hxs;rw[←hv2]at hys;obtain⟨q,hq,hqp⟩:=hq u v hxu hyv;obtain⟨b,hb,hbe⟩:=mC d w' fs (i+1) ks' l m hks ho hxs hys;cases q with
      |true=>
       refine⟨b,?_,by rw[hbe];simp[←hqp]⟩;simp[Op.eqFields,hname,Sem.run_bind,pr hu1,pr hv1,hq,hb]
      |false=>
       refine⟨false,?_,by simp[←hqp]⟩;simp[Op.eqFields,hname,Sem.run_bind,pr hu1,pr hv1,hq]
     cases d0 with
     |int k0=>
      cases hk
      match l,m,hok,hx,hy with
      |.int k1 n1 :: l,.int k2 n2 :: m,hok,hx,hy=>
       simp only[gZ,aO,decide_eq_true_eq]at hok;obtain⟨rfl,hok⟩:=hok;exact step _ _ l m (n1=n2) hx hy hok fun u v hu hv=>by
        cases hu;cases hv;exact⟨_,run_equalIn_int w' d f.type k1 k0 n1 n2 hd,by simp⟩
     |string=>
      cases hk
      match l,m,hok,hx,hy with
      |.str s1 :: l,.str s2 :: m,hok,hx,hy=>
       exact step _ _ l m (s1=s2) hx hy (by simpa [gZ]using hok) fun u v hu hv=>by
        cases hu;cases hv;exact⟨_,run_equalIn_string w' d f.type s1 s2 hd,by rw[uU];simp⟩
     |bool=>
      cases hk
      match l,m,hok,hx,hy with
      |.bl b1 :: l,.bl b2 :: m,hok,hx,hy=>
       exact step _ _ l m (b1=b2) hx hy (by simpa [gZ]using hok) fun u v hu hv=>by
        cases hu;cases hv;exact⟨_,run_equalIn_bool' w' d f.type b1 b2 hd,by simp⟩
     |_=>simp[uK]at hk
   ·cases hf
  ·cases hf
theorem Bj {x y:Operand}{x' y':XA}{t t':TypeId}{op:BinOp}{fs:Array Field}{ks:List Nat}(ne:Bool) (hop:op=if ne then .neq else .eql) (hd:P.underlying t=some (.struct fs)) (hp:P.stoodInHeld t=false) (hm:P.eqGuardType P.depth t=false) (hf:kJ P fs.toList 0=some ks)
  (ho:o.op=.binOp op t x y t') (hx:cA x=some x') (hy:cA y=some y'):dM P o (.cms ne ks x' y'):=by
 intro C st a w r pub keep al K h hK;have h1:=h.ev hx;have h2:=h.ev hy;simp only[dB]at hK;generalize hcv:st.ev x'=cv at hK h1;generalize hcu:st.ev y'=cu at hK h2;generalize hv:a.eval x=v at h1;generalize hu:a.eval y=u at h2;have hfo:P.fieldsOf t=fs:=by unfold Program.fieldsOf;rw[hd]
 cases h1 with
 |@agg _ l xs hl hc=>
  cases h2 with
  |@agg _ m ys hm2 hc2=>
   obtain⟨hok,hK⟩:=hK;have key:∀w':World,∃b,(Op.equalIn 10000 t (.agg xs) (.agg ys)).run P w'=.ok b w'∧(b=true↔iP l m):=fun w'=>by
    have:=mC (P:=P) (pub:=pub) (w:=w) (r:=r) 9998 w' fs.toList 0 ks l m hf hok ⟨by simpa using hl,fun i x u hx hu=>hc i x u hx (by simpa using hu)⟩ ⟨by simpa using hm2,fun i x u hx hu=>hc2 i x u hx (by simpa using hu)⟩;obtain⟨b,hb,hbe⟩:=this;refine⟨b,?_,hbe⟩;rw[run_equalIn_struct w' 9999 t xs ys (by rw[hfo];exact hd) hp,hfo];exact hb
   have go:∀(b:Bool),(b=true↔iP l m)→∀w':World,(execOp a.eval o).run P w'=.ok (.value (.bool (b != ne))) w':=fun b hb w'=>by
    obtain⟨b',h1,h2⟩:=key w';have hbb:b'=b:=by
     cases b<;>cases b'<;>simp at hb h2<;>first|rfl|exact absurd hb h2|exact absurd h2 hb
    subst hbb;unfold execOp;have hg:=run_eqGuard_agg (P:=P) w' op t x y xs ys hm;cases ne<;>simp only[aY,if_false,if_true]at hop<;>subst hop
    ·simp[ho,hv,hu,Sem.run_bind,hg,run_eql_struct,h1]
    ·simp[ho,hv,hu,Sem.run_bind,hg,run_neq_struct,h1]
   by_cases he:iP l m
   ·exact⟨_,_,.bl _,hK.yes he,fun w' _=>by rw[go true (by simp[he]) w'];cases ne<;>rfl⟩
   ·exact⟨_,_,.bl _,hK.no he,fun w' _=>by rw[go false (by simp[he]) w'];cases ne<;>rfl⟩
  |_=>exact hK.elim
 |_=>cases h2<;>exact hK.elim
theorem W9 {pub:cI}{w:World}{r:cF}(d:Nat) (w':World) {e:TypeId}{k:Nat}(hk:(P.underlying e).bind uK=some k) {xs ys:Array Value}:∀(n i:Nat) (l m:List AV),gZ (List.replicate n k) l m=true→bO pub w r l (xs.toList.drop i)→bO pub w r m (ys.toList.drop i) →
  ∃b,(Op.eqItems (d+1) e 1 xs ys (List.range' i n)).run P w'=.ok b w'∧(b=true↔iP l m)
 |0,i,l,m,hok,_,_=>by
  cases l<;>cases m<;>simp[gZ]at hok;exact⟨true,by simp[Op.eqItems],by simp[iP]⟩
 |n+1,i,l,m,hok,hx,hy=>by
  rw[List.replicate_succ]at hok;cases hd:P.underlying e with
  |none=>rw[hd]at hk;cases hk
  |some d0=>
   rw[hd]at hk;simp only[Option.bind_some]at hk;have hrow:iZ P e=some false:=by
    unfold iZ;rw[hd];cases d0<;>simp[uK]at hk<;>rfl
   have tl:∀{zs:Array Value}{z:Value}{q:List Value},zs.toList.drop i=z :: q→zs[i]?=some z∧zs.toList.drop (i+1)=q:=fun {zs z q} h=>by
    refine⟨?_,?_⟩
    ·have:=congrArg (fun l=>l[0]?) h;simpa using this
    ·rw[←List.drop_drop,h];rfl
   have pr:∀{zs:Array Value}{z:Value},zs[i]?=some z→(part e zs i).run P w'=.ok z w':=fun {zs z} hz=>by
    simp[part,Sem.run_bind,fD hrow,hz]
   have step:∀(x y:AV) (l m:List AV) (p:Prop),bO pub w r (x :: l) (xs.toList.drop i)→bO pub w r (y :: m) (ys.toList.drop i)→gZ (List.replicate n k) l m=true →
     (∀u v,bS pub w r x u→bS pub w r y v→∃q,(Op.equalIn (d+1) e u v).run P w'=.ok q w'∧(q=true↔p))→∃b,(Op.eqItems (d+1) e 1 xs ys (List.range' i (n+1))).run P w'=.ok b w'∧(b=true↔p∧iP l m):=fun x y l m p hx hy ho hq=>by
    obtain⟨u,us,hu,hxu,hxs⟩:=hx.cons_inv;obtain⟨v,vs,hv,hyv,hys⟩:=hy.cons_inv;obtain⟨hu1,hu2⟩:=tl hu;obtain⟨hv1,hv2⟩:=tl hv;rw[←hu2]at hxs;rw[←hv2]at hys;obtain⟨q,hq,hqp⟩:=hq u v hxu hyv;obtain⟨b,hb,hbe⟩:=W9 d w' (by rw[hd];exact hk) n (i+1) l m ho hxs hys;rw[List.range'_succ];cases q with
    |true=>
     refine⟨b,?_,by rw[hbe];simp[←hqp]⟩;simp[Op.eqItems,Sem.run_bind,pr hu1,pr hv1,hq,hb]
    |false=>
     refine⟨false,?_,by simp[←hqp]⟩;simp[Op.eqItems,Sem.run_bind,pr hu1,pr hv1,hq]
   cases d0 with
   |int k0=>
    cases hk
    match l,m,hok,hx,hy with
    |.int k1 n1 :: l,.int k2 n2 :: m,hok,hx,hy=>
     simp only[gZ,aO,decide_eq_true_eq]at hok;obtain⟨rfl,hok⟩:=hok;exact step _ _ l m (n1=n2) hx hy hok fun u v hu hv=>by
      cases hu;cases hv;exact⟨_,run_equalIn_int w' d e k1 k0 n1 n2 hd,by simp⟩
   |string=>
    cases hk
    match l,m,hok,hx,hy with
    |.str s1 :: l,.str s2 :: m,hok,hx,hy=>
     exact step _ _ l m (s1=s2) hx hy (by simpa [gZ]using hok) fun u v hu hv=>by
      cases hu;cases hv;exact⟨_,run_equalIn_string w' d e s1 s2 hd,by rw[uU];simp⟩
   |bool=>
    cases hk
    match l,m,hok,hx,hy with
    |.bl b1 :: l,.bl b2 :: m,hok,hx,hy=>
     exact step _ _ l m (b1=b2) hx hy (by simpa [gZ]using hok) fun u v hu hv=>by
      cases hu;cases hv;exact⟨_,run_equalIn_bool' w' d e b1 b2 hd,by simp⟩
   |_=>simp[uK]at hk
theorem Ys {x y:Operand}{x' y':XA}{t t' e:TypeId}{op:BinOp}{n k:Nat}{it:TypeInfo}(ne:Bool) (hop:op=if ne then .neq else .eql) (hd:P.underlying t=some (.array n e)) (hi:P.info? e=some it) (h1c:it.size=1) (hk:(P.underlying e).bind uK=some k) (hm:P.eqGuardType P.depth t=false)
  (ho:o.op=.binOp op t x y t') (hx:cA x=some x') (hy:cA y=some y'):dM P o (.cms ne (List.replicate n k) x' y'):=by
 intro C st a w r pub keep al K h hK;have h1:=h.ev hx;have h2:=h.ev hy;simp only[dB]at hK;generalize hcv:st.ev x'=cv at hK h1;generalize hcu:st.ev y'=cu at hK h2;generalize hv:a.eval x=v at h1;generalize hu:a.eval y=u at h2;have hce:P.cellsOf e=1:=by unfold Program.cellsOf;rw[hi];exact h1c
 cases h1 with
 |@agg _ l xs hl hc=>
  cases h2 with
  |@agg _ m ys hm2 hc2=>
   obtain⟨hok,hK⟩:=hK;have key:∀w':World,∃b,(Op.equalIn 10000 t (.agg xs) (.agg ys)).run P w'=.ok b w'∧(b=true↔iP l m):=fun w'=>by
    have:=W9 (P:=P) (pub:=pub) (w:=w) (r:=r) 9998 w' hk n 0 l m hok ⟨by simpa using hl,fun i x u hx hu=>hc i x u hx (by simpa using hu)⟩ ⟨by simpa using hm2,fun i x u hx hu=>hc2 i x u hx (by simpa using hu)⟩;obtain⟨b,hb,hbe⟩:=this;refine⟨b,?_,hbe⟩;rw[run_equalIn_array w' 9999 xs ys hd hi,hce,List.range_eq_range'];exact hb
   have go:∀(b:Bool),(b=true↔iP l m)→∀w':World,(execOp a.eval o).run P w'=.ok (.value (.bool (b != ne))) w':=fun b hb w'=>by
    obtain⟨b',h1,h2⟩:=key w';have hbb:b'=b:=by
     cases b<;>cases b'<;>simp at hb h2<;>first|rfl|exact absurd hb h2|exact absurd h2 hb
    subst hbb;unfold execOp;have hg:=run_eqGuard_agg (P:=P) w' op t x y xs ys hm;cases ne<;>simp only[aY,if_false,if_true]at hop<;>subst hop
    ·simp[ho,hv,hu,Sem.run_bind,hg,run_eql_struct,h1]
    ·simp[ho,hv,hu,Sem.run_bind,hg,run_neq_struct,h1]
   by_cases he:iP l m
   ·exact⟨_,_,.bl _,hK.yes he,fun w' _=>by rw[go true (by simp[he]) w'];cases ne<;>rfl⟩
   ·exact⟨_,_,.bl _,hK.no he,fun w' _=>by rw[go false (by simp[he]) w'];cases ne<;>rfl⟩
  |_=>exact hK.elim
 |_=>cases h2<;>exact hK.elim
end
def gH:List Value→Option (List AV)
 |[]=>some []
 |v :: l=>match WJ v,gH l with
  |some x,some r=>some (x :: r)
  |_,_=>none
theorem fG {pub:cI}{w:World}{r:cF}:∀{l:List Value}{xs:List AV},gH l=some xs→bO pub w r xs l
 |[],xs,h=>by cases h;exact .nil
 |v :: l,xs,h=>by
  unfold gH at h
  split at h
  ·rename_i x y h1 h2;cases h;exact .cons (WX h1) (fG h2)
  ·cases h
theorem Yw {v:Value}{x:AV}(h:WJ v=some x):x.bnd 0=true∧x.one=true:=by
 unfold WJ at h
 split at h<;>first|(cases h;done)|(cases h;exact⟨by simp[AV.bnd],rfl⟩)
theorem oM:∀{l:List Value}{xs:List AV},gH l=some xs→xs.all AV.one=true∧AV.bndL 0 xs=true
 |[],xs,h=>by cases h;exact⟨rfl,by simp[AV.bndL]⟩
 |v :: l,xs,h=>by
  unfold gH at h
  split at h
  ·rename_i x y h1 h2;cases h;obtain⟨h3,h4⟩:=oM h2;obtain⟨h5,h6⟩:=Yw h1;exact⟨by simp[h3,h6],by simp[AV.bndL,h4,h5]⟩
  ·cases h
theorem Cu (vs:List Value):∀(j off:Nat) (cs:Array Value),off+j+vs.length≤cs.size →
  ((vs.zipIdx j).foldl (fun cs (p:Value×Nat)=>cs.setIfInBounds (off+p.2) p.1) cs).toList=cs.toList.take (off+j)++vs++cs.toList.drop (off+j+vs.length):=by
 induction vs with
 |nil=>intro j off cs h;simp
 |cons v vs ih=>
  intro j off cs h;simp only[List.zipIdx_cons,List.foldl_cons];rw[ih (j+1) off _ (by simp at h⊢;omega)];simp only[Array.toList_setIfInBounds,List.length_cons];have hlt:off+j < cs.toList.length:=by simp at h⊢;omega
  rw[List.drop_set,aF (by omega),←Nat.add_assoc,List.take_succ_eq_append_getElem (by simpa using hlt),List.take_set,List.set_eq_of_length_le (by simp;omega)];simp only[List.getElem_set_self,bE,List.cons_append,List.nil_append];rw[show off+j+1+vs.length=off+j+(vs.length+1) by omega]
theorem sC {pub:cI}{w:World}{r:cF}(place:Nat→Option (Nat×Nat)):∀(parts:List (Nat×Value)) (ps:List (Nat×List AV)) (arr:Array Value) (zs:List AV),bO pub w r zs arr.toList→parts.length=ps.length →
  (∀(i:Nat) (q:Nat×Value) (p:Nat×List AV),parts[i]?=some q→ps[i]?=some p→place q.1=some (p.1,p.2.length)∧p.1+p.2.length≤zs.length∧bO pub w r p.2 q.2.cells.toList) →
  ∃cells,Instr.fill place arr parts=some cells∧bO pub w r (pD zs ps) cells.toList
 |[],[],arr,zs,hz,_,_=>⟨arr,rfl,hz⟩
 |[],p :: ps,arr,zs,hz,hl,_=>by simp at hl
 |q :: parts,[],arr,zs,hz,hl,_=>by simp at hl
 |q :: parts,p :: ps,arr,zs,hz,hl,h=>by
  obtain⟨h1,h2,h3⟩:=h 0 q p rfl rfl;have hsz:=h3.len;have hzl:=hz.len;obtain⟨i,v⟩:=q;dsimp only at h1 h3 hsz;have hsize:v.cells.size=p.2.length:=by simpa using hsz
  have hals:arr.size=zs.length:=by simpa using hzl
  unfold Instr.fill;simp only[h1];rw[aE (by simp[hsize];omega)];have hsp:((v.cells.zipIdx.foldl (fun cs (c,j)=>cs.setIfInBounds (p.1+j) c) arr)).toList=arr.toList.take p.1++v.cells.toList++arr.toList.drop (p.1+v.cells.toList.length):=by
   have:=Cu v.cells.toList 0 p.1 arr (by simp;omega);rw[←Array.foldl_toList,Array.toList_zipIdx];simpa using this
  have hseg:=hz.seg h3 p.1;rw[←hsp]at hseg;have hspl:(gV zs p.2 p.1).length=zs.length:=by unfold gV;simp;omega
  exact sC place parts ps _ _ hseg (by simpa using hl) (fun j q' p' hq' hp'=>by
   obtain⟨k1,k2,k3⟩:=h (j+1) q' p' (by simpa using hq') (by simpa using hp');exact⟨k1,by rw[hspl];exact k2,k3⟩)
def sH (P:bG) (t:TypeId):Option (Nat→Option (Nat×Nat)):=
 match P.underlying t with
 |some (.array _ e)=>match P.info? e with
  |some ie=>some fun i=>some (i * ie.size,ie.size)
  |none=>none
 |some (.struct fields)=>match fields.toList.mapM (fun f=>(P.info? f.type).map fun i=>(f.offset,i.size)) with
  |some places=>some fun i=>places.toArray[i]?
  |none=>none
 |_=>none
theorem Kc {P:bG}{t:TypeId}{it:TypeInfo}{z:Value}{place:Nat→Option (Nat×Nat)}(hi:P.info? t=some it) (hz:it.zero=some z) (hp:sH P t=some place) (parts:List (Nat×Value)):P.built t parts=Instr.fill place z.cells parts:=by
 unfold sH at hp;unfold Program.built
 split at hp
 ·rename_i n e hd;cases he:P.info? e with
  |none=>rw[he]at hp;cases hp
  |some ie=>rw[he]at hp;cases hp;simp[hi,hd,hz,he]
 ·rename_i fields hd;cases hm:fields.toList.mapM (fun f=>(P.info? f.type).map fun i=>(f.offset,i.size)) with
  |none=>rw[hm]at hp;cases hp
  |some places=>rw[hm]at hp;cases hp;simp[hi,hd,hz,hm]
 ·cases hp
def vA (place:Nat→Option (Nat×Nat)):List (Nat×Operand)→Option (List (Nat×Nat×XA))
 |[]=>some []
 |(i,x) :: l=>match place i,cA x,vA place l with
  |some (off,n),some x',some r=>some ((off,n,x') :: r)
  |_,_,_=>none
theorem uG {place:Nat→Option (Nat×Nat)}:∀{l:List (Nat×Operand)}{r:List (Nat×Nat×XA)},vA place l=some r→l.length=r.length∧
  ∀(i:Nat) (q:Nat×Operand) (p:Nat×Nat×XA),l[i]?=some q→r[i]?=some p→place q.1=some (p.1,p.2.1)∧cA q.2=some p.2.2
 |[],r,h=>by cases h;exact⟨rfl,fun i q p h=>by simp at h⟩
 |(i,x) :: l,r,h=>by
  unfold vA at h
  split at h
  ·rename_i off n x' r' h1 h2 h3;cases h;obtain⟨h4,h5⟩:=uG h3;refine⟨by simp[h4],fun j q p hq hp=>?_⟩;cases j with
   |zero=>simp at hq hp;subst hq hp;exact⟨h1,h2⟩
   |succ j=>exact h5 j q p (by simpa using hq) (by simpa using hp)
  ·cases h
section
variable {P:bG}{o:Oper}
theorem Jh {t:TypeId}{parts:Array (Nat×Operand)}{it:TypeInfo}{z:Value}{place:Nat→Option (Nat×Nat)}{zs:List AV}{ps:List (Nat×Nat×XA)}(hi:P.info? t=some it) (hz:it.zero=some z) (hp:sH P t=some place) (hc:gH z.cells.toList=some zs)
  (hps:vA place parts.toList=some ps) (ho:o.op=.build t parts):dM P o (.bld zs ps):=by
 intro C st a w r pub keep al K h hK;simp only[dB]at hK;obtain⟨hall,hK⟩:=hK;obtain⟨hl,hg⟩:=uG hps;rw[aS]at hall;have:=sC (pub:=pub) (w:=w) (r:=r) place (parts.toList.map fun p=>(p.1,a.eval p.2)) (ps.map fun p=>(p.1,(st.ev p.2.2).cells)) z.cells zs (fG hc) (by simpa using hl) (fun i q p hq hp'=>by
  rw[aD]at hq hp';cases hq1:parts.toList[i]? with
  |none=>rw[hq1]at hq;cases hq
  |some q1=>
   cases hp1:ps[i]? with
   |none=>rw[hp1]at hp';cases hp'
   |some p1=>
    rw[hq1]at hq;rw[hp1]at hp';cases hq;cases hp';obtain⟨h1,h2⟩:=hg i q1 p1 hq1 hp1;have h3:=hall p1 (aC hp1);simp only[aO,beq_iff_eq,decide_eq_true_eq]at h3;obtain⟨⟨h4,h5⟩,h6⟩:=h3;exact⟨by rw[h1,h5],by dsimp only;omega,((h.ev h2).cells_ h4).1⟩)
 obtain⟨cells,hf,hv⟩:=this;refine⟨.agg cells,_,.agg (by have:=hv.len;simpa using this) (fun i x u hx hu=>hv.at_ i x u hx (by simpa using hu)),hK,fun w' _=>?_⟩;have hb:P.built t (parts.map fun(i,x)=>(i,a.eval x)).toList=some cells:=by
  rw[Kc hi hz hp,Array.toList_map];exact hf
 unfold execOp;simp only[ho,Sem.run_bind,run_build w' t _ cells hb,Result.andThen_ok];rfl
end
end Go.Proofs.YtooioahiijbomaaGreatDoor
end
