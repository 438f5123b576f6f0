/- Contracts and plain laws that the last text rests on. Conditions: each theorem states its own. -/
import Derived.Test.YtpakjclpjcngmaaGreatKdQ3
import Derived.Deep.QuietTactic
import Derived.BigQuiet
import Derived.Test.YtpakjclpjcngmaaGreatKdQ1
import Derived.Laws.BitsAllLaws
set_option maxRecDepth 100000
set_option maxHeartbeats 1000000
set_option linter.unusedVariables false
namespace Go.Proofs.YtpakjclpjcngmaaGreat
open Go.RowKit
structure ay (W w:World) (e:TypeId) (size:Nat) (v:Value) (n:Nat) (xs:List Value):Prop where
 own:w.ownsRow W.heap.size e size v n xs
 nx:Nx W w
structure Moved (w w':World) (v v':Value):Prop where
 ch:Ch (fun k=>v.ownBlock=some k) w w'
 at_:v'.ownBlock=v.ownBlock∨∃k,v'.ownBlock=some k/\w.heap.size<=k
section
variable {W w w' : World} {e : TypeId} {size n : Nat} {v v' : Value} {xs : List Value}
theorem ay.ch {S:Nat->Prop} (h:ay W w e size v n xs) (c:Ch S w w') (hv:∀k,v.ownBlock=some k->¬S k) (hS:∀i,i<W.heap.size->¬S i):ay W w' e size v n xs:=
 ⟨z09 h.own c hv,h.nx.trans c fun i hi hs=>(hS i hi hs).elim⟩
theorem ay.tr (h:ay W w e size v n xs) (c:Nx w w'):ay W w' e size v n xs:=h.ch c (fun _ _ hf=>hf) (fun _ _ hf=>hf)
theorem ay.drewN (h:ay W w e size v n xs) (k:Nat):ay W (w.drewN k) e size v n xs:=h.tr ((Ch.refl _ w).drewN k)
theorem ay.alloc (h:ay W w e size v n xs) (o:Obj):ay W (w.alloc o) e size v n xs:=h.tr ((Ch.refl _ w).alloc o)
theorem ay.nil (W w:World) (e:TypeId) (size:Nat) (c:Nx W w):ay W w e size (.slice none 0 0) 0 []:=⟨World.ownsRow_nil _ _ _ _,c⟩
theorem ay.lit (W w:World) (e:TypeId) (c:Nx W w) (size:Nat):ay W (w.alloc (.cells #[] e)) e size (.slice (some ⟨w.heap.size,0,none⟩) 0 0) 0 []:=
 ⟨World.ownsRow_made w #[] 0 c.size (by simp[maxLen]) (by simp),c.alloc _⟩
theorem ay.form (h:ay W w e size v n xs):∃A c,v=.slice A n c/\n<=c/\c<=maxLen:=z04 h.own
theorem ay.lt (h:ay W w e size v n xs):∀k,v.ownBlock=some k->W.heap.size<=k/\k<w.heap.size:=h.own.lt
theorem ay.rd {A:Option Addr} {c:Nat} (h:ay W w e size (.slice A n c) n xs):Rd w (fun k=>(Value.slice A n c).ownBlock=some k/\W.heap.size<=k/\k<w.heap.size) size A n xs:=Rd.dh h.own
end
section
variable {P : Program}
theorem VH {W w:World} {e:TypeId} {size n m:Nat} {v v':Value} {xs news:List Value} {w1 w2:World} (h:ay W w e size v n xs) (c:Nx w w1)
 (h2:w2.ownsRow W.heap.size e size v' (n+m) (xs++news)) (h3:w1.grownBy w2 v.ownBlock) (h4:v'.ownBlock=v.ownBlock∨v'.ownBlock=some w1.heap.size):
 ay W w2 e size v' (n+m) (xs++news)/\Moved w w2 v v':=by
 have hc:Ch (fun k=>v.ownBlock=some k) w w2:=(c.mono (fun _ _ hf=>hf.elim)).grown h3 fun k hk _=>hk;refine ⟨⟨h2,h.nx.trans hc fun i hi hk=>?_⟩,hc,?_⟩
 ·have:=h.lt i hk;omega
 ·rcases h4 with e|e
  ·exact .inl e
  ·exact .inr ⟨_,e,c.size⟩
theorem z08 {ops:Array Oper} {rest:List Oper} {o:Oper} {a:Act} {Q:Exit->Act->World->Prop} (hgd:o.guard=none) (s x:Operand) (t:TypeId)
 (ho:o.op=.call { callee:=.builtin .append,args:= #[s,x],argTypes:= #[t,t]})
 (e:TypeId) (i:TypeInfo) (z:Value) (bytes:Nat) (ht:P.underlying t=some (.slice e)) (hi:P.info? e=some i) (hz:i.zero=some z)
 (hsize:i.size=1) (hby:i.bytes=bytes) (hzs:z.cells.size=1)
 {W w:World} {v:Value} {n:Nat} {xs:List Value} (u:Value) (hu:u.oneCell'=true) (hs:a.eval s=v) (hown:ay W w e 1 v n xs)
 (hx:a.eval x=.slice (some ⟨w.heap.size,0,none⟩) 1 1)
 (h63:n+1<=maxLen) (hbytes:(n+1) * bytes<=140737488355328)
 (h:∀v' w',ay W w' e 1 v' (n+1) (xs++[u])->Moved w w' v v'->wpList P ops Q rest (a.put o.dst v') w'):wpList P ops Q (o::rest) a (w.alloc (.cells #[u] e)):=
 z03 (w.alloc (.cells #[u] e)) hgd s x t ho W.heap.size e i z 1 bytes ht hi hz hsize hby hzs (by omega) v n xs hs (hown.alloc _).own (fun _=>True) _ 1 1 [u] hx
  ⟨rfl,fun _=>⟨⟨w.heap.size,0,none⟩,rfl,trivial,cell_one_new _ _ _⟩⟩ (by simpa using hu) h63 hbytes (Nat.le_trans hown.nx.size (by simp))
  fun v' w' h2 h3 h4=>h v' w' (VH hown ((Ch.refl _ w).alloc _) h2 h3 h4).1 (VH hown ((Ch.refl _ w).alloc _) h2 h3 h4).2
theorem z07 {ops:Array Oper} {rest:List Oper} {o:Oper} {a:Act} {Q:Exit->Act->World->Prop} (hgd:o.guard=none) (s x:Operand) (t:TypeId)
 (ho:o.op=.call { callee:=.builtin .append,args:= #[s,x],argTypes:= #[t,t]})
 (e:TypeId) (i:TypeInfo) (z:Value) (size bytes:Nat) (ht:P.underlying t=some (.slice e)) (hi:P.info? e=some i) (hz:i.zero=some z)
 (hsize:i.size=size) (hby:i.bytes=bytes) (hzs:z.cells.size=size) (hsz:0<size)
 {W w:World} {v:Value} {n:Nat} {xs:List Value} (hs:a.eval s=v) (hown:ay W w e size v n xs)
 (D:Nat->Prop) (A:Option Addr) (m c:Nat) (news:List Value) (hx:a.eval x=.slice A m c) (hr:Rd w D size A m news) (h1:∀u∈news,u.oneCell'=true)
 (h63:n+m<=maxLen) (hbytes:(n+m) * bytes<=140737488355328)
 (h:∀v' w',ay W w' e size v' (n+m) (xs++news)->Moved w w' v v'->wpList P ops Q rest (a.put o.dst v') w'):wpList P ops Q (o::rest) a w:=
 z03 w hgd s x t ho W.heap.size e i z size bytes ht hi hz hsize hby hzs hsz v n xs hs hown.own D A m c news hx hr h1 h63 hbytes hown.nx.size
  fun v' w' h2 h3 h4=>h v' w' (VH hown (Ch.refl _ w) h2 h3 h4).1 (VH hown (Ch.refl _ w) h2 h3 h4).2
def Gives (W:World) (e:TypeId) (size n:Nat) (xs:List Value) (en:Ending) (w':World):Prop:=∃v,en=.returned v/\ay W w' e size v n xs
def rQ (W:World) (e:TypeId) (size n:Nat) (xs:List Value) (en:Ending) (w':World):Prop:=
 ∃k cap,en=.returned (.slice (some ⟨k,0,none⟩) n cap)/\ay W w' e size (.slice (some ⟨k,0,none⟩) n cap) n xs/\W.heap.size<=k/\k<w'.heap.size/\n<=cap/\cap<=maxLen
theorem rQ.CP {W w:World} {e:TypeId} {size n:Nat} {v:Value} {xs:List Value} (h:ay W w e size v n xs) (hb:v.ownBlock≠none):rQ W e size n xs (.returned v) w:=by
 obtain ⟨k,hk⟩:∃k,v.ownBlock=some k:=by cases hv:v.ownBlock with|none=>exact absurd hv hb|some k=>exact ⟨k,rfl⟩
 obtain ⟨cap,rfl,h1,h2⟩:=z2o h.own hk;exact ⟨k,cap,rfl,h,(h.lt k hk).1,(h.lt k hk).2,h1,h2⟩
theorem Moved.some_ {w w':World} {v v':Value} (m:Moved w w' v v') (h:v.ownBlock≠none):v'.ownBlock≠none:=by
 rcases m.at_ with e|⟨k,e,_⟩
 ·rw[e];exact h
 ·rw[e];simp
theorem ay.jZ {W w:World} {e:TypeId} {size n k c:Nat} {xs:List Value} (h:ay W w e size (.slice (some ⟨k,0,none⟩) n c) n xs):Rd w (· =k) size (some ⟨k,0,none⟩) n xs:=
 h.rd.more fun j ⟨hj,_⟩=>by simpa [Value.ownBlock]using hj.symm
def mJ (w:World) (g i:Nat):Int:=match w.cell? ⟨g,i,none⟩ with|some (.int _ q)=>q|_=>0
theorem JA {w:World} {g i:Nat} {t:TypeId} {cs:Array Value} {k:IntKind} {q:Int} (b:aJ w g t cs) (h:cs[i]?=some (.int k q)):mJ w g i=q:=by
 unfold mJ;rw[b.cell,h]
theorem VG {f:FuncId} {args:Array Value} {w:World} {n:Nat} {v:Value}
 (h:Calls P f args (w.drewN n) fun e w'=>e=.returned v/\w.drewN n=w'):Calls P f args (w.drewN n) fun e w''=>e=.returned v/\∃m,w''=w.drewN m:=
 h.mono fun _ _ ⟨he,hm⟩=>⟨he,n,hm.symm⟩
theorem qg {f:FuncId} {args:Array Value} {w:World} {a n:Nat} {v:Value}
 (h:Calls P f args (w.drewN (a+n)) fun e w'=>e=.returned v/\w.drewN (a+n)=w'):
 Calls P f args (w.drewN (a+n)) fun e w''=>e=.returned v/\∃m,w''=w.drewN (a+m):=
 h.mono fun _ _ ⟨he,hm⟩=>⟨he,n,hm.symm⟩
end
def cZ (w:World) (g h:Nat) (bs:List Nat) (p:Nat):Prop:=
 ∃A c,aJ w g 247 #[.slice A bs.length c,.int .i64 (p:Int)]/\Rd w (· =h) 1 A bs.length (bl bs)/\h≠g/\p<=8 * bs.length/\bs.length<=140737488355328/\okB bs
theorem cZ.ch {w w':World} {g h:Nat} {bs:List Nat} {p:Nat} {S:Nat->Prop} (r:cZ w g h bs p) (hc:Ch S w w') (hg:¬S g) (hh:¬S h):cZ w' g h bs p:=by
 obtain ⟨A,c,b,rd,x⟩:=r;exact ⟨A,c,b.ch hc hg,rd.ch (by omega) hc (fun k _ e=>by rw[e];exact hh),x⟩
theorem cZ.nx {w w':World} {g h:Nat} {bs:List Nat} {p:Nat} (r:cZ w g h bs p) (hc:Nx w w'):cZ w' g h bs p:=r.ch hc (fun hf=>hf) (fun hf=>hf)
theorem cZ.lt {w:World} {g h:Nat} {bs:List Nat} {p:Nat} (r:cZ w g h bs p):g<w.heap.size:=by
 obtain ⟨A,c,b,rd,x⟩:=r;exact b.lt
theorem cZ.le {w:World} {g h:Nat} {bs:List Nat} {p:Nat} (r:cZ w g h bs p):p<=8 * bs.length/\bs.length<=140737488355328:=by
 obtain ⟨A,c,b,rd,x,y,z,_⟩:=r;exact ⟨y,z⟩
theorem cZ.dX {w:World} {g h:Nat} {bs:List Nat} {p q:Nat} (r:cZ w g h bs p) (hq:q<=8 * bs.length) (n:Nat):cZ ((w.drewN n).setCell ⟨g,1,none⟩ (.int .i64 (q:Int))) g h bs q:=by
 obtain ⟨A,c,b,rd,x,y,z,u⟩:=r;refine ⟨A,c,?_,?_,x,hq,z,u⟩
 ·have:=(b.drewN n).dX 1 (.int .i64 (q:Int))
  simpa using this
 ·exact rd.keep fun k e=>by
   rw[Below.heap_setCell _ _ _ _ (by rw[e];exact x)];rfl
theorem QZ (g h:Nat) (bs:List Nat) (p:Nat) (w:World) (r:cZ w g h bs p):
 Calls Tryz.prog 286 #[.pointer (some ⟨g,0,none⟩)] w fun e w'=>e=.returned (.int .i64 (p:Int))/\w=w':=by
 obtain ⟨A,c,b,rd,x⟩:=r;have c1:w.cell? ⟨g,1,none⟩=some (.int .i64 (p:Int)):=b.cell 1;go_enter Tryz.func286,Tryz.ntmps286;go_wp2
 go_ret;exact ⟨rfl,rfl⟩
theorem BO (g h:Nat) (bs:List Nat) (p:Nat) (w:World) (r:cZ w g h bs p):
 Calls Tryz.prog 199 #[.pointer (some ⟨g,0,none⟩)] w fun e w'=>e=.returned (.int .i64 (8 * (bs.length:Int)-p))/\Dr w w':=by
 obtain ⟨A,c,b,rd,x,hp,hl,_⟩:=r;have c0:w.cell? ⟨g,0,none⟩=some (.slice A bs.length c):=b.cell 0;have c1:w.cell? ⟨g,1,none⟩=some (.int .i64 (p:Int)):=b.cell 1;clear b rd;generalize bs.length=l at *;go_enter Tryz.func199,Tryz.ntmps199;go_wp2
 go_quiet (fail)
 go_wp2
 go_ret;exact ⟨rfl,_,rfl⟩
theorem WJ (a x r k:Nat) (ha:a<2 ^ k) (hx:x<256) (hk:k<32):
 bits .or .u32 (a:Int) (bits .and .u8 ((x:Int) / 2 ^ r) 1 % 4294967296 * 2 ^ k % 4294967296)=((a+x / 2 ^ r % 2 * 2 ^ k:Nat):Int):=by
 have hp:(2:Nat) ^ k<=2 ^ 31:=Nat.pow_le_pow_right (by omega) (by omega);have h1:((x:Int) / 2 ^ r)=((x / 2 ^ r:Nat):Int):=by simp
 have hd:x / 2 ^ r<=x:=Nat.div_le_self _ _
 have h2:bits .and .u8 ((x / 2 ^ r:Nat):Int) 1=((x / 2 ^ r % 2:Nat):Int):=by
  have:=u8_and_nat (x / 2 ^ r) 1 (by omega) (by omega);rw[Nat.and_one_is_mod]at this;exact this
 rw[h1,h2];generalize hb:x / 2 ^ r % 2=b;have hb2:b<2:=by rw[←hb];exact Nat.mod_lt _ (by omega)
 have hbk:b * 2 ^ k<=1 * 2 ^ k:=Nat.mul_le_mul_right _ (by omega)
 have h3:((b:Nat):Int) % 4294967296 * 2 ^ k % 4294967296=((b * 2 ^ k:Nat):Int):=by
  have e1:((b:Nat):Int) % 4294967296=(b:Int):=Int.emod_eq_of_lt (by omega) (by omega);have e2:((b * 2 ^ k:Nat):Int)=(b:Int) * 2 ^ k:=by simp
  rw[e1,←e2];exact Int.emod_eq_of_lt (by omega) (by omega)
 rw[h3,u32_or_nat a (b * 2 ^ k) (by omega) (by omega),or_bit a b k ha]
theorem pY (g h:Nat) (bs:List Nat) (p m:Nat) (w:World) (r:cZ w g h bs p) (hm:m<=32) (hpm:p+m<=8 * bs.length):
 Calls Tryz.prog 142 #[.pointer (some ⟨g,0,none⟩),.int .i64 (m:Int)] w fun e w'=>e=.returned (.tuple #[.int .u32 (dS bs p m:Int),.int .i64 0])/\
  cZ w' g h bs (p+m)/\Ch (· =g) w w':=by
 have hl:=r.le;have hd:¬(8 * (bs.length:Int)-(p:Int)<(m:Int)):=by omega
 have hd2:¬((m:Int)<0):=by omega
 have hd3:¬((32:Int)<(m:Int)):=by omega
 go_enter Tryz.func142,Tryz.ntmps142;go_wp2_with (go_at_call 199;refine (BO g h bs p _ r).mono ?_;rintro e w' ⟨rfl,n,rfl⟩)
 go_loopw [6,25] (fun v i wr=>∃k:Nat,k<=m/\i=.int .i64 k/\v=.int .u32 (dS bs p k:Int)/\cZ wr g h bs (p+k)/\Ch (· =g) w wr)
  (fun _ i _=>m-(intOf i).toNat)
 case atStart=>exact ⟨0,by omega,rfl,rfl,r,(Ch.refl _ _).drewN _⟩
 case round=>
  obtain ⟨k,hk,rfl,rfl,hr,hch⟩:=hrel;have hr':=hr;by_cases hlt:k<m
  ·obtain ⟨A,c,b,rd,x,hp,hl',hok⟩:=hr
   have d0:wr.cell? ⟨g,0,none⟩=some (.slice A bs.length c):=b.cell 0;have d1:wr.cell? ⟨g,1,none⟩=some (.int .i64 ((p:Int)+(k:Int))):=by have:=b.cell 1;simpa using this
   have d2:=b.frozen 1;obtain ⟨ad,u,rfl,_,hu,hc⟩:=rd.at_ (k:=(p+k) / 8) (by omega);rw[Pn (by omega)]at hu;injection hu with hu;subst hu;have hb:=WJ (dS bs p k) (bs.getD ((p+k) / 8) 0) ((p+k) % 8) k (zT _ _ _) (z19 hok _) (by omega);have hxl:=z19 hok ((p+k) / 8);have Hb:Hid (_=((dS bs p (k+1):Nat):Int)):=hb;clear hb;generalize bs.getD ((p+k) / 8) 0=xx at *;clear b rd r;go_wp2
   go_quiet (fail)
   go_wp2
   go_roundw
   case rel=>exact ⟨k+1,by omega,by go_num,by rw[Hb.out],hr'.dX (q:=p+(k+1)) (by omega) nq,(hch.drewN _).setCell (fun _=>rfl) _⟩
   case measure=>simp[intOf];omega
  ·obtain rfl:k=m:=by omega
   go_wp2
   go_ret2;exact ⟨rfl,hr,hch⟩
theorem qc (g h:Nat) (bs:List Nat) (p:Nat) (w:World) (r:cZ w g h bs p) (hpm:p<8 * bs.length):
 Calls Tryz.prog 142 #[.pointer (some ⟨g,0,none⟩),.int .i64 1] w fun e w'=>e=.returned (.tuple #[.int .u32 (iY bs p:Int),.int .i64 0])/\
  cZ w' g h bs (p+1)/\Ch (· =g) w w':=by
 have:=pY g h bs p 1 w r (by omega) (by omega);simpa [dS]using this
theorem z2r (g h:Nat) (bs:List Nat) (p:Nat) (m:Int) (w:World) (r:cZ w g h bs p) (hm0:0<=m) (hm:m<=32) (hpm:8 * (bs.length:Int)<p+m):
 Calls Tryz.prog 142 #[.pointer (some ⟨g,0,none⟩),.int .i64 m] w fun e w'=>e=.returned (.tuple #[.int .u32 0,.int .i64 3])/\Dr w w':=by
 have hl:=r.le;have hd:(8 * (bs.length:Int)-(p:Int)<m):=by omega
 have hd2:¬(m<0):=by omega
 have hd3:¬((32:Int)<m):=by omega
 go_enter Tryz.func142,Tryz.ntmps142;go_wp2_with (go_at_call 199;refine (BO g h bs p _ r).mono ?_;rintro e w' ⟨rfl,n,rfl⟩)
 go_ret2;exact ⟨rfl,_,rfl⟩
theorem vW (g h:Nat) (bs:List Nat) (p:Nat) (w:World) (r:cZ w g h bs p):
 Calls Tryz.prog 285 #[.pointer (some ⟨g,0,none⟩)] w fun e w'=>e=.returned (.tuple #[])/\
  cZ w' g h bs ((p+7) / 8 * 8)/\Ch (· =g) w w':=by
 have r':=r;have hl:=r.le;obtain ⟨A,c,b,rd,x,hp,hl',hok⟩:=r;have d1:w.cell? ⟨g,1,none⟩=some (.int .i64 (p:Int)):=b.cell 1;have d2:=b.frozen 1;clear b rd;go_enter Tryz.func285,Tryz.ntmps285;go_wp2
 go_end0
 exact ⟨rfl,r'.dX (q:=(p+7) / 8 * 8) (by omega) 0,Ch.setCell (S:=(· =g)) (Ch.refl _ _) (p:=⟨g,1,none⟩) (fun _=>rfl) _⟩
section
variable {α β : Type} {f : α → List β} {s : Nat}
theorem z23 (hs:∀x,(f x).length=s):∀l:List α,(l.flatMap f).length=l.length * s
 |[]=>by simp
 |x::l=>by
  rw[List.flatMap_cons,List.length_append,hs,z23 hs l,List.length_cons,Nat.succ_mul];omega
theorem P_ (hs:∀x,(f x).length=s):∀{l:List α} {k i:Nat} (hk:k<l.length) (hi:i<s),(l.flatMap f)[k * s+i]?=(f l[k])[i]?
 |[],k,i,hk,hi=>absurd hk (by simp)
 |x::l,0,i,hk,hi=>by
  rw[List.flatMap_cons,Nat.zero_mul,Nat.zero_add,List.getElem?_append_left (by rw[hs];exact hi)];rfl
 |x::l,k+1,i,hk,hi=>by
  have hx:=hs x;rw[List.flatMap_cons,List.getElem?_append_right (by rw[hx,Nat.succ_mul];omega),hx,show (k+1) * s+i-s=k * s+i by rw[Nat.succ_mul];omega,P_ hs (by simpa using hk) hi];rfl
theorem Om (hs:∀x,(f x).length=s) (l:List α) (k:Nat):(l.flatMap f).take (k * s)=(l.take k).flatMap f:=by
 induction l generalizing k with
 |nil=>simp
 |cons x l ih=>
  cases k with
  |zero=>simp
  |succ k=>
   rw[List.flatMap_cons,List.take_succ_cons,List.flatMap_cons,←ih k,Nat.succ_mul,Nat.add_comm,←hs x,List.take_length_add_append]
theorem Oo (hs:∀x,(f x).length=s) (l:List α) (k:Nat):(l.flatMap f).drop (k * s)=(l.drop k).flatMap f:=by
 induction l generalizing k with
 |nil=>simp
 |cons x l ih=>
  cases k with
  |zero=>simp
  |succ k=>
   rw[List.flatMap_cons,List.drop_succ_cons,←ih k,Nat.succ_mul,Nat.add_comm,←hs x,List.drop_length_add_append]
def pK:List β->Nat->List β->List β
 |l,_,[]=>l
 |l,o,v::vs=>pK (l.set o v) (o+1) vs
theorem vN:∀(vs l:List β) (o i:Nat),o+vs.length<=l.length->(pK l o vs)[i]?=if o<=i/\i<o+vs.length then vs[i-o]? else l[i]?
 |[],l,o,i,h=>by rw[if_neg (by simp)];rfl
 |v::vs,l,o,i,h=>by
  have h':o+1+vs.length<=l.length:=by simp at h;omega
  rw[pK,vN vs (l.set o v) (o+1) i (by rw[List.length_set];exact h')];by_cases e:o=i
  ·subst e
   rw[if_neg (by omega),if_pos (by simp),List.getElem?_set,if_pos rfl,if_pos (by omega),Nat.sub_self];rfl
  ·by_cases c:o+1<=i/\i<o+1+vs.length
   ·rw[if_pos c,if_pos (by simp;omega),show i-o=i-(o+1)+1 by omega]
    rfl
   ·rw[if_neg c,if_neg (by simp;omega),List.getElem?_set_ne e]
theorem DY (hs:∀x,(f x).length=s) {l:List α} {k:Nat} (hk:k<l.length) (x:α):pK (l.flatMap f) (k * s) (f x)=(l.set k x).flatMap f:=by
 have hl:=z23 hs l
 have hks:k * s+s<=l.length * s:=by
  have:=Nat.mul_le_mul_right s (show k+1<=l.length from hk);rw[Nat.succ_mul]at this;exact this
 by_cases hs0:s=0
 ·have h1:(l.flatMap f)=[]:=List.eq_nil_of_length_eq_zero (by rw[hl,hs0,Nat.mul_zero])
  have h2:((l.set k x).flatMap f)=[]:=List.eq_nil_of_length_eq_zero (by rw[z23 hs,hs0,Nat.mul_zero]);have h3:f x=[]:=List.eq_nil_of_length_eq_zero (by rw[hs,hs0]);rw[h1,h2,h3];rfl
 apply List.ext_getElem?
 intro i;rw[vN _ _ _ _ (by rw[hs,hl];exact hks),hs];by_cases hi:i<l.length * s
 ·have hq:i / s<l.length:=by rw[Nat.div_lt_iff_lt_mul (by omega)];exact hi
  have he:i=i / s * s+i % s:=by rw[Nat.mul_comm];exact (Nat.div_add_mod i s).symm
  have hm:i % s<s:=Nat.mod_lt _ (by omega);have g1:=P_ hs (l:=l) (k:=i / s) (i:=i % s) hq hm;have g2:=P_ hs (l:=l.set k x) (k:=i / s) (i:=i % s) (by rw[List.length_set];exact hq) hm;rw[←he]at g1 g2;rw[g2,List.getElem_set];by_cases e:k=i / s
  ·rw[if_pos e]
   have:k * s<=i/\i<k * s+s:=by rw[e];omega
   rw[if_pos this];congr 1
   rw[e];omega
  ·rw[if_neg e,←g1,if_neg]
   intro ⟨h1,h2⟩;apply e
   have h3:k<=i / s:=by rw[Nat.le_div_iff_mul_le (by omega)];exact h1
   have h4:i / s<k+1:=by rw[Nat.div_lt_iff_lt_mul (by omega),Nat.succ_mul];exact h2
   omega
 ·rw[if_neg (by omega),List.getElem?_eq_none (by rw[hl];omega),List.getElem?_eq_none (by rw[z23 hs,List.length_set];omega)]
end
theorem JW {w:World} {ad:Addr} {a:Nat} (i:Nat) {v:Value} (h:w.cell? (ad.add (a+(i+1)))=some v):w.cell? ⟨(ad.add a).block,(ad.add a).off+(i+1),none⟩=some v:=by
 rw[←rE]at h;exact h
theorem z5R {α:Type} {f:α->List Value} {s:Nat} (hs:∀x,(f x).length=s) (hs0:0<s) {W:World} {a:Addr} {n:Nat} {good:α->Prop} (key:∀i,i<n->∃p,good p/\∀j u,j<s->(f p)[j]?=some u->W.cell? (a.add (i * s+j))=some u):
 ∃l:List α,l.length=n/\(∀p∈l,good p)/\Rd W (· <W.heap.size) s (some a) n (l.flatMap f):=by
 have H:∀m,m<=n->∃l:List α,l.length=m/\(∀p∈l,good p)/\∀i (h:i<l.length) j u,j<s->(f l[i])[j]?=some u->W.cell? (a.add (i * s+j))=some u:=by
  intro m;induction m with
  |zero=>intro _;exact ⟨[],rfl,by simp,fun i h=>absurd h (by simp)⟩
  |succ m ih=>
   intro hm;obtain ⟨l,h1,h2,h3⟩:=ih (by omega);obtain ⟨p,hp,hc⟩:=key m (by omega);refine ⟨l++[p],by simp[h1],fun q hq=>?_,fun i h j u hj hu=>?_⟩
   ·rcases List.mem_append.1 hq with hq|hq
    ·exact h2 q hq
    ·rw[List.mem_singleton.1 hq];exact hp
   ·by_cases e:i<l.length
    ·rw[List.getElem_append_left e]at hu
     exact h3 i e j u hj hu
    ·have e2:i=m:=by simp at h;omega
     subst e2;rw[List.getElem_append_right (by omega)]at hu;simp only[List.getElem_singleton]at hu;exact hc j u hj hu
 obtain ⟨l,h1,h2,h3⟩:=H n (Nat.le_refl _);have hl:=z23 hs l;refine ⟨l,h1,h2,by rw[hl,h1],fun hn=>⟨a,rfl,?_,fun j u hu=>?_⟩⟩
 ·have h0:0<l.length:=by omega
  have hg:(f l[0])[0]?=some ((f l[0])[0]'(by rw[hs];exact hs0)):=List.getElem?_eq_getElem (by rw[hs];exact hs0);have:=World.block_lt_of_cell? W _ (h3 0 h0 0 _ hs0 hg);rwa [Ak]at this
 ·have hj:j<l.length * s:=by
   rcases Nat.lt_or_ge j (l.length * s) with hj|hj
   ·exact hj
   ·rw[List.getElem?_eq_none (by rw[hl];exact hj)]at hu;cases hu
  have hq:j / s<l.length:=by rw[Nat.div_lt_iff_lt_mul hs0];exact hj
  have he:j / s * s+j % s=j:=by rw[Nat.mul_comm];exact Nat.div_add_mod j s
  have g1:=P_ hs (l:=l) (k:=j / s) (i:=j % s) hq (Nat.mod_lt _ hs0);rw[he]at g1;rw[g1]at hu;have:=h3 (j / s) hq (j % s) u (Nat.mod_lt _ hs0) hu;rwa [he]at this
def jw:World->Nat->Nat->List Value->World
 |w,_,_,[]=>w
 |w,g,o,v::vs=>jw (w.setCell ⟨g,o,none⟩ v) g (o+1) vs
theorem z5L {base:Nat} {e:TypeId} {size n g cap:Nat}:∀(vs:List Value) (w:World) (xs:List Value) (o:Nat),w.ownsRow base e size (.slice (some ⟨g,0,none⟩) n cap) n xs->(jw w g o vs).ownsRow base e size (.slice (some ⟨g,0,none⟩) n cap) n (pK xs o vs)
 |[],w,xs,o,h=>h
 |v::vs,w,xs,o,h=>z5L vs _ _ (o+1) (h.stored o v).1
theorem z5c {g:Nat}:∀(vs:List Value) (w:World) (o:Nat),Ch (fun k=>k=g) w (jw w g o vs)
 |[],w,o=>Ch.refl _ _
 |v::vs,w,o=>(Ch.setCell (S:=fun k=>k=g) (Ch.refl _ w) (p:=⟨g,o,none⟩) (fun _=>rfl) v).trans (z5c vs _ (o+1)) fun _ _ e=>e
structure aW where
 place:Int
 size:Int
 rows:Int
 lo:Int
 hi:Int
structure PV where
 text:ByteArray
 gs:List Int
 A:Option Addr
 c:Nat
/-! memory -/
def aW.cs (s:aW):List Value:=[.int .i64 s.place,.int .i64 s.size,.int .i64 s.rows,.int .i64 s.lo,.int .i64 s.hi]
def PV.cs (x:PV):List Value:=[.string x.text,.slice x.A x.gs.length x.c]
theorem aW.dP (s:aW):s.cs.length=5:=rfl
theorem PV.dP (x:PV):x.cs.length=2:=rfl
def spl (l:List aW):List Value:=l.flatMap fun s=>s.cs
def kZ (l:List PV):List Value:=l.flatMap fun x=>x.cs
def ints (l:List Int):List Value:=l.map fun z=>.int .i64 z
theorem Wh (l:List aW):(spl l).length=l.length * 5:=by
 unfold spl;induction l with
 |nil=>rfl
 |cons x l ih=>rw[List.flatMap_cons,List.length_append,ih,aW.dP,List.length_cons];omega
theorem WA (l:List PV):(kZ l).length=l.length * 2:=by
 unfold kZ;induction l with
 |nil=>rfl
 |cons x l ih=>rw[List.flatMap_cons,List.length_append,ih,PV.dP,List.length_cons];omega
theorem yj {w:World} {D:Nat->Prop} {A:Option Addr} {n k:Nat} {l:List aW} (h:Rd w D 5 A n (spl l)) (hk:k<l.length):∃ad,A=some ad/\D ad.block/\w.cell? (ad.add (k * 5))=some (.int .i64 l[k].place)/\
 w.cell? ⟨(ad.add (k * 5)).block,(ad.add (k * 5)).off+1,none⟩=some (.int .i64 l[k].size)/\w.cell? ⟨(ad.add (k * 5)).block,(ad.add (k * 5)).off+2,none⟩=some (.int .i64 l[k].rows)/\
 w.cell? ⟨(ad.add (k * 5)).block,(ad.add (k * 5)).off+3,none⟩=some (.int .i64 l[k].lo)/\w.cell? ⟨(ad.add (k * 5)).block,(ad.add (k * 5)).off+4,none⟩=some (.int .i64 l[k].hi):=by
 have hn:0<n:=by have:=h.1;rw[Wh]at this;omega
 obtain ⟨ad,rfl,hb,hc⟩:=h.2 hn;have g:=fun i (hi:i<5) u (hu:(l[k].cs)[i]?=some u)=>hc (k * 5+i) u ((P_ aW.dP hk hi).trans hu);exact ⟨ad,rfl,hb,g 0 (by decide) _ rfl,JW 0 (g 1 (by decide) _ rfl),JW 1 (g 2 (by decide) _ rfl),JW 2 (g 3 (by decide) _ rfl),JW 3 (g 4 (by decide) _ rfl)⟩
theorem post_at {w:World} {D:Nat->Prop} {A:Option Addr} {n k:Nat} {l:List PV} (h:Rd w D 2 A n (kZ l)) (hk:k<l.length):∃ad,A=some ad/\D ad.block/\w.cell? (ad.add (k * 2))=some (.string l[k].text)/\
 w.cell? ⟨(ad.add (k * 2)).block,(ad.add (k * 2)).off+1,none⟩=some (.slice l[k].A l[k].gs.length l[k].c):=by
 have hn:0<n:=by have:=h.1;rw[WA]at this;omega
 obtain ⟨ad,rfl,hb,hc⟩:=h.2 hn;have g:=fun i (hi:i<2) u (hu:(l[k].cs)[i]?=some u)=>hc (k * 2+i) u ((P_ PV.dP hk hi).trans hu);exact ⟨ad,rfl,hb,g 0 (by decide) _ rfl,JW 0 (g 1 (by decide) _ rfl)⟩
end Go.Proofs.YtpakjclpjcngmaaGreat
namespace Go.Proofs.YtpakjclpjcngmaaGreat
open Go
structure QW (P:Program) (ops:Array Oper) (C:World->Prop) (Q:Act->Prop) (l:List Oper) (a:Act):Prop where
 out:wpQuiet P ops C Q l a
section
variable {P : Program} {C : World → Prop}
theorem z30 (C:World->Prop) {id:Nat} {Q:Exit->Act->World->Prop} {a:Act} {w:World} {l:List Oper} (hm:P.follows .mixedOrders=true) (hB:Region.lexB .any l.toArray=true) (hC:C w.drew)
 (h:QW P l.toArray C (fun a'=>∀w',C w'->Q .normal a' w') l a):(Code.region id l.toArray true).wp P Q a w:=
 wp_region_quiet (C:=C) hm hB hC (by simpa using h.out)
variable {ops : Array Oper} {Q : Act → Prop} {o : Oper} {rest : List Oper} {a a' : Act} {v : Value}
theorem YB (hw:Region.wanted o (yielded ops a.tmps)=true) (hy:∀w,C w->o.quietAt P a C w v) (hp:a.put o.dst v=a') (h:QW P ops C Q rest a'):QW P ops C Q (o::rest) a:=by
 subst hp;exact ⟨BigFrame.wpQuiet_want hw fun K hK=>⟨v,hy,hK _ h.out⟩⟩
theorem YC (hw:Region.wanted o (yielded ops a.tmps)=false) (hp:a.put o.dst undef=a') (h:QW P ops C Q rest a'):QW P ops C Q (o::rest) a:=by
 subst hp;exact ⟨BigFrame.wpQuiet_skip hw h.out⟩
theorem adx (h:Q a):QW P ops C Q [] a:=⟨wpQuiet_nil h⟩
end
end Go.Proofs.YtpakjclpjcngmaaGreat
