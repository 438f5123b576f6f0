/- Contracts and plain laws that the last text rests on. Conditions: each theorem states its own. -/
import Derived.Test.YtfljcllpmbnjaaaGreatKdQ2
import Derived.Deep.QuietTactic
import Derived.BigQuiet
import Derived.Laws.BitsAllLaws
set_option maxRecDepth 100000
set_option maxHeartbeats 1000000
set_option linter.unusedVariables false
namespace Go.Proofs.YtfljcllpmbnjaaaGreat
open Go.RowKit
structure au (W w:World) (e:TypeId) (size:Nat) (v:Value) (n:Nat) (xs:List Value):Prop where
 own:w.ownsRow W.heap.size e size v n xs
 nx:Nx W w
structure Moved (w w':World) (v v':Value):Prop where
 ch:Ch (fun k=>v.ownBlock=some k) w w'
 at_:v'.ownBlock=v.ownBlock∨∃k,v'.ownBlock=some k/\w.heap.size<=k
section
variable {W w w' : World} {e : TypeId} {size n : Nat} {v v' : Value} {xs : List Value}
theorem au.ch {S:Nat->Prop} (h:au W w e size v n xs) (c:Ch S w w') (hv:∀k,v.ownBlock=some k->¬S k) (hS:∀i,i<W.heap.size->¬S i):au W w' e size v n xs:=
 ⟨z06 h.own c hv,h.nx.trans c fun i hi hs=>(hS i hi hs).elim⟩
theorem au.tr (h:au W w e size v n xs) (c:Nx w w'):au W w' e size v n xs:=h.ch c (fun _ _ hf=>hf) (fun _ _ hf=>hf)
theorem au.drewN (h:au W w e size v n xs) (k:Nat):au W (w.drewN k) e size v n xs:=h.tr ((Ch.refl _ w).drewN k)
theorem au.alloc (h:au W w e size v n xs) (o:Obj):au W (w.alloc o) e size v n xs:=h.tr ((Ch.refl _ w).alloc o)
theorem au.nil (W w:World) (e:TypeId) (size:Nat) (c:Nx W w):au W w e size (.slice none 0 0) 0 []:=⟨World.ownsRow_nil _ _ _ _,c⟩
theorem au.lit (W w:World) (e:TypeId) (c:Nx W w) (size:Nat):au W (w.alloc (.cells #[] e)) e size (.slice (some ⟨w.heap.size,0,none⟩) 0 0) 0 []:=
 ⟨World.ownsRow_made w #[] 0 c.size (by simp[maxLen]) (by simp),c.alloc _⟩
theorem au.form (h:au W w e size v n xs):∃A c,v=.slice A n c/\n<=c/\c<=maxLen:=z05 h.own
theorem au.lt (h:au W w e size v n xs):∀k,v.ownBlock=some k->W.heap.size<=k/\k<w.heap.size:=h.own.lt
theorem au.rd {A:Option Addr} {c:Nat} (h:au W w e size (.slice A n c) n xs):Rd w (fun k=>(Value.slice A n c).ownBlock=some k/\W.heap.size<=k/\k<w.heap.size) size A n xs:=Rd.bY h.own
end
section
variable {P : Program}
theorem XG {W w:World} {e:TypeId} {size n m:Nat} {v v':Value} {xs news:List Value} {w1 w2:World} (h:au W w e size v n xs) (c:Nx w w1)
 (h2:w2.ownsRow W.heap.size e size v' (n+m) (xs++news)) (h3:w1.grownBy w2 v.ownBlock) (h4:v'.ownBlock=v.ownBlock∨v'.ownBlock=some w1.heap.size):
 au W w2 e size v' (n+m) (xs++news)/\Moved w w2 v v':=by
 have hc:Ch (fun k=>v.ownBlock=some k) w w2:=(c.mono (fun _ _ hf=>hf.elim)).grown h3 fun k hk _=>hk;refine ⟨⟨h2,h.nx.trans hc fun i hi hk=>?_⟩,hc,?_⟩
 ·have:=h.lt i hk;omega
 ·rcases h4 with e|e
  ·exact .inl e
  ·exact .inr ⟨_,e,c.size⟩
theorem z02 {ops:Array Oper} {rest:List Oper} {o:Oper} {a:Act} {Q:Exit->Act->World->Prop} (hgd:o.guard=none) (s x:Operand) (t:TypeId)
 (ho:o.op=.call { callee:=.builtin .append,args:= #[s,x],argTypes:= #[t,t]})
 (e:TypeId) (i:TypeInfo) (z:Value) (bytes:Nat) (ht:P.underlying t=some (.slice e)) (hi:P.info? e=some i) (hz:i.zero=some z)
 (hsize:i.size=1) (hby:i.bytes=bytes) (hzs:z.cells.size=1)
 {W w:World} {v:Value} {n:Nat} {xs:List Value} (u:Value) (hu:u.oneCell'=true) (hs:a.eval s=v) (hown:au W w e 1 v n xs)
 (hx:a.eval x=.slice (some ⟨w.heap.size,0,none⟩) 1 1)
 (h63:n+1<=maxLen) (hbytes:(n+1) * bytes<=140737488355328)
 (h:∀v' w',au W w' e 1 v' (n+1) (xs++[u])->Moved w w' v v'->wpList P ops Q rest (a.put o.dst v') w'):wpList P ops Q (o::rest) a (w.alloc (.cells #[u] e)):=
 z00 (w.alloc (.cells #[u] e)) hgd s x t ho W.heap.size e i z 1 bytes ht hi hz hsize hby hzs (by omega) v n xs hs (hown.alloc _).own (fun _=>True) _ 1 1 [u] hx
  ⟨rfl,fun _=>⟨⟨w.heap.size,0,none⟩,rfl,trivial,cell_one_new _ _ _⟩⟩ (by simpa using hu) h63 hbytes (Nat.le_trans hown.nx.size (by simp))
  fun v' w' h2 h3 h4=>h v' w' (XG hown ((Ch.refl _ w).alloc _) h2 h3 h4).1 (XG hown ((Ch.refl _ w).alloc _) h2 h3 h4).2
theorem z01 {ops:Array Oper} {rest:List Oper} {o:Oper} {a:Act} {Q:Exit->Act->World->Prop} (hgd:o.guard=none) (s x:Operand) (t:TypeId)
 (ho:o.op=.call { callee:=.builtin .append,args:= #[s,x],argTypes:= #[t,t]})
 (e:TypeId) (i:TypeInfo) (z:Value) (size bytes:Nat) (ht:P.underlying t=some (.slice e)) (hi:P.info? e=some i) (hz:i.zero=some z)
 (hsize:i.size=size) (hby:i.bytes=bytes) (hzs:z.cells.size=size) (hsz:0<size)
 {W w:World} {v:Value} {n:Nat} {xs:List Value} (hs:a.eval s=v) (hown:au W w e size v n xs)
 (D:Nat->Prop) (A:Option Addr) (m c:Nat) (news:List Value) (hx:a.eval x=.slice A m c) (hr:Rd w D size A m news) (h1:∀u∈news,u.oneCell'=true)
 (h63:n+m<=maxLen) (hbytes:(n+m) * bytes<=140737488355328)
 (h:∀v' w',au W w' e size v' (n+m) (xs++news)->Moved w w' v v'->wpList P ops Q rest (a.put o.dst v') w'):wpList P ops Q (o::rest) a w:=
 z00 w hgd s x t ho W.heap.size e i z size bytes ht hi hz hsize hby hzs hsz v n xs hs hown.own D A m c news hx hr h1 h63 hbytes hown.nx.size
  fun v' w' h2 h3 h4=>h v' w' (XG hown (Ch.refl _ w) h2 h3 h4).1 (XG hown (Ch.refl _ w) h2 h3 h4).2
def fZ (W:World) (e:TypeId) (size n:Nat) (xs:List Value) (en:Ending) (w':World):Prop:=
 ∃k cap,en=.returned (.slice (some ⟨k,0,none⟩) n cap)/\au W w' e size (.slice (some ⟨k,0,none⟩) n cap) n xs/\W.heap.size<=k/\k<w'.heap.size/\n<=cap/\cap<=maxLen
theorem fZ.jG {W w:World} {e:TypeId} {size n:Nat} {v:Value} {xs:List Value} (h:au W w e size v n xs) (hb:v.ownBlock≠none):fZ W e size n xs (.returned v) w:=by
 obtain ⟨k,hk⟩:∃k,v.ownBlock=some k:=by cases hv:v.ownBlock with|none=>exact absurd hv hb|some k=>exact ⟨k,rfl⟩
 obtain ⟨cap,rfl,h1,h2⟩:=Ot h.own hk;exact ⟨k,cap,rfl,h,(h.lt k hk).1,(h.lt k hk).2,h1,h2⟩
theorem Moved.some_ {w w':World} {v v':Value} (m:Moved w w' v v') (h:v.ownBlock≠none):v'.ownBlock≠none:=by
 rcases m.at_ with e|⟨k,e,_⟩
 ·rw[e];exact h
 ·rw[e];simp
theorem au.fM {W w:World} {e:TypeId} {size n k c:Nat} {xs:List Value} (h:au W w e size (.slice (some ⟨k,0,none⟩) n c) n xs):Rd w (· =k) size (some ⟨k,0,none⟩) n xs:=
 h.rd.more fun j ⟨hj,_⟩=>by simpa [Value.ownBlock]using hj.symm
def Jv (w:World) (g i:Nat):Int:=match w.cell? ⟨g,i,none⟩ with|some (.int _ q)=>q|_=>0
theorem oN {w:World} {g i:Nat} {t:TypeId} {cs:Array Value} {k:IntKind} {q:Int} (b:dD w g t cs) (h:cs[i]?=some (.int k q)):Jv w g i=q:=by
 unfold Jv;rw[b.cell,h]
theorem z47 {f:FuncId} {args:Array Value} {w:World} {n:Nat} {v:Value}
 (h:Calls P f args (w.drewN n) fun e w'=>e=.returned v/\w.drewN n=w'):Calls P f args (w.drewN n) fun e w''=>e=.returned v/\∃m,w''=w.drewN m:=
 h.mono fun _ _ ⟨he,hm⟩=>⟨he,n,hm.symm⟩
theorem z3f {f:FuncId} {args:Array Value} {w:World} {a n:Nat} {v:Value}
 (h:Calls P f args (w.drewN (a+n)) fun e w'=>e=.returned v/\w.drewN (a+n)=w'):
 Calls P f args (w.drewN (a+n)) fun e w''=>e=.returned v/\∃m,w''=w.drewN (a+m):=
 h.mono fun _ _ ⟨he,hm⟩=>⟨he,n,hm.symm⟩
end
def cZ (w:World) (g h:Nat) (bs:List Nat) (p:Nat):Prop:=
 ∃A c,dD w g 123 #[.slice A bs.length c,.int .i64 (p:Int)]/\Rd w (· =h) 1 A bs.length (bl bs)/\h≠g/\p<=8 * bs.length/\bs.length<=140737488355328/\okB bs
theorem cZ.ch {w w':World} {g h:Nat} {bs:List Nat} {p:Nat} {S:Nat->Prop} (r:cZ w g h bs p) (hc:Ch S w w') (hg:¬S g) (hh:¬S h):cZ w' g h bs p:=by
 obtain ⟨A,c,b,rd,x⟩:=r;exact ⟨A,c,b.ch hc hg,rd.ch (by omega) hc (fun k _ e=>by rw[e];exact hh),x⟩
theorem cZ.nx {w w':World} {g h:Nat} {bs:List Nat} {p:Nat} (r:cZ w g h bs p) (hc:Nx w w'):cZ w' g h bs p:=r.ch hc (fun hf=>hf) (fun hf=>hf)
theorem cZ.lt {w:World} {g h:Nat} {bs:List Nat} {p:Nat} (r:cZ w g h bs p):g<w.heap.size:=by
 obtain ⟨A,c,b,rd,x⟩:=r;exact b.lt
theorem cZ.le {w:World} {g h:Nat} {bs:List Nat} {p:Nat} (r:cZ w g h bs p):p<=8 * bs.length/\bs.length<=140737488355328:=by
 obtain ⟨A,c,b,rd,x,y,z,_⟩:=r;exact ⟨y,z⟩
theorem cZ.dZ {w:World} {g h:Nat} {bs:List Nat} {p q:Nat} (r:cZ w g h bs p) (hq:q<=8 * bs.length) (n:Nat):cZ ((w.drewN n).setCell ⟨g,1,none⟩ (.int .i64 (q:Int))) g h bs q:=by
 obtain ⟨A,c,b,rd,x,y,z,u⟩:=r;refine ⟨A,c,?_,?_,x,hq,z,u⟩
 ·have:=(b.drewN n).dZ 1 (.int .i64 (q:Int))
  simpa using this
 ·exact rd.keep fun k e=>by
   rw[Below.heap_setCell _ _ _ _ (by rw[e];exact x)];rfl
theorem KT (g h:Nat) (bs:List Nat) (p:Nat) (w:World) (r:cZ w g h bs p):
 Calls Tryz.prog 161 #[.pointer (some ⟨g,0,none⟩)] w fun e w'=>e=.returned (.int .i64 (p:Int))/\w=w':=by
 obtain ⟨A,c,b,rd,x⟩:=r;have c1:w.cell? ⟨g,1,none⟩=some (.int .i64 (p:Int)):=b.cell 1;go_enter Tryz.func161,Tryz.ntmps161;go_wp2
 go_ret;exact ⟨rfl,rfl⟩
theorem yM (g h:Nat) (bs:List Nat) (p:Nat) (w:World) (r:cZ w g h bs p):
 Calls Tryz.prog 102 #[.pointer (some ⟨g,0,none⟩)] w fun e w'=>e=.returned (.int .i64 (8 * (bs.length:Int)-p))/\Dr w w':=by
 obtain ⟨A,c,b,rd,x,hp,hl,_⟩:=r;have c0:w.cell? ⟨g,0,none⟩=some (.slice A bs.length c):=b.cell 0;have c1:w.cell? ⟨g,1,none⟩=some (.int .i64 (p:Int)):=b.cell 1;clear b rd;generalize bs.length=l at *;go_enter Tryz.func102,Tryz.ntmps102;go_wp2
 go_quiet (fail)
 go_wp2
 go_ret;exact ⟨rfl,_,rfl⟩
theorem PD (a x r k:Nat) (ha:a<2 ^ k) (hx:x<256) (hk:k<32):
 bits .or .u32 (a:Int) (bits .and .u8 ((x:Int) / 2 ^ r) 1 % 4294967296 * 2 ^ k % 4294967296)=((a+x / 2 ^ r % 2 * 2 ^ k:Nat):Int):=by
 have hp:(2:Nat) ^ k<=2 ^ 31:=Nat.pow_le_pow_right (by omega) (by omega);have h1:((x:Int) / 2 ^ r)=((x / 2 ^ r:Nat):Int):=by simp
 have hd:x / 2 ^ r<=x:=Nat.div_le_self _ _
 have h2:bits .and .u8 ((x / 2 ^ r:Nat):Int) 1=((x / 2 ^ r % 2:Nat):Int):=by
  have:=u8_and_nat (x / 2 ^ r) 1 (by omega) (by omega);rw[Nat.and_one_is_mod]at this;exact this
 rw[h1,h2];generalize hb:x / 2 ^ r % 2=b;have hb2:b<2:=by rw[←hb];exact Nat.mod_lt _ (by omega)
 have hbk:b * 2 ^ k<=1 * 2 ^ k:=Nat.mul_le_mul_right _ (by omega)
 have h3:((b:Nat):Int) % 4294967296 * 2 ^ k % 4294967296=((b * 2 ^ k:Nat):Int):=by
  have e1:((b:Nat):Int) % 4294967296=(b:Int):=Int.emod_eq_of_lt (by omega) (by omega);have e2:((b * 2 ^ k:Nat):Int)=(b:Int) * 2 ^ k:=by simp
  rw[e1,←e2];exact Int.emod_eq_of_lt (by omega) (by omega)
 rw[h3,u32_or_nat a (b * 2 ^ k) (by omega) (by omega),or_bit a b k ha]
theorem ny (g h:Nat) (bs:List Nat) (p m:Nat) (w:World) (r:cZ w g h bs p) (hm:m<=32) (hpm:p+m<=8 * bs.length):
 Calls Tryz.prog 70 #[.pointer (some ⟨g,0,none⟩),.int .i64 (m:Int)] w fun e w'=>e=.returned (.tuple #[.int .u32 (aS bs p m:Int),.int .i64 0])/\
  cZ w' g h bs (p+m)/\Ch (· =g) w w':=by
 have hl:=r.le;have hd:¬(8 * (bs.length:Int)-(p:Int)<(m:Int)):=by omega
 have hd2:¬((m:Int)<0):=by omega
 have hd3:¬((32:Int)<(m:Int)):=by omega
 go_enter Tryz.func70,Tryz.ntmps70;go_wp2_with (go_at_call 102;refine (yM g h bs p _ r).mono ?_;rintro e w' ⟨rfl,n,rfl⟩)
 go_loopw [6,25] (fun v i wr=>∃k:Nat,k<=m/\i=.int .i64 k/\v=.int .u32 (aS bs p k:Int)/\cZ wr g h bs (p+k)/\Ch (· =g) w wr)
  (fun _ i _=>m-(intOf i).toNat)
 case atStart=>exact ⟨0,by omega,rfl,rfl,r,(Ch.refl _ _).drewN _⟩
 case round=>
  obtain ⟨k,hk,rfl,rfl,hr,hch⟩:=hrel;have hr':=hr;by_cases hlt:k<m
  ·obtain ⟨A,c,b,rd,x,hp,hl',hok⟩:=hr
   have d0:wr.cell? ⟨g,0,none⟩=some (.slice A bs.length c):=b.cell 0;have d1:wr.cell? ⟨g,1,none⟩=some (.int .i64 ((p:Int)+(k:Int))):=by have:=b.cell 1;simpa using this
   have d2:=b.frozen 1;obtain ⟨ad,u,rfl,_,hu,hc⟩:=rd.at_ (k:=(p+k) / 8) (by omega);rw[tV (by omega)]at hu;injection hu with hu;subst hu;have hb:=PD (aS bs p k) (bs.getD ((p+k) / 8) 0) ((p+k) % 8) k (AU _ _ _) (uf hok _) (by omega);have hxl:=uf hok ((p+k) / 8);have Hb:Hid (_=((aS bs p (k+1):Nat):Int)):=hb;clear hb;generalize bs.getD ((p+k) / 8) 0=xx at *;clear b rd r;go_wp2
   go_quiet (fail)
   go_wp2
   go_roundw
   case rel=>exact ⟨k+1,by omega,by go_num,by rw[Hb.out],hr'.dZ (q:=p+(k+1)) (by omega) nq,(hch.drewN _).setCell (fun _=>rfl) _⟩
   case measure=>simp[intOf];omega
  ·obtain rfl:k=m:=by omega
   go_wp2
   go_ret2;exact ⟨rfl,hr,hch⟩
theorem nC (g h:Nat) (bs:List Nat) (p:Nat) (w:World) (r:cZ w g h bs p) (hpm:p<8 * bs.length):
 Calls Tryz.prog 70 #[.pointer (some ⟨g,0,none⟩),.int .i64 1] w fun e w'=>e=.returned (.tuple #[.int .u32 (dO bs p:Int),.int .i64 0])/\
  cZ w' g h bs (p+1)/\Ch (· =g) w w':=by
 have:=ny g h bs p 1 w r (by omega) (by omega);simpa [aS]using this
theorem z29 (g h:Nat) (bs:List Nat) (p:Nat) (m:Int) (w:World) (r:cZ w g h bs p) (hm0:0<=m) (hm:m<=32) (hpm:8 * (bs.length:Int)<p+m):
 Calls Tryz.prog 70 #[.pointer (some ⟨g,0,none⟩),.int .i64 m] w fun e w'=>e=.returned (.tuple #[.int .u32 0,.int .i64 3])/\Dr w w':=by
 have hl:=r.le;have hd:(8 * (bs.length:Int)-(p:Int)<m):=by omega
 have hd2:¬(m<0):=by omega
 have hd3:¬((32:Int)<m):=by omega
 go_enter Tryz.func70,Tryz.ntmps70;go_wp2_with (go_at_call 102;refine (yM g h bs p _ r).mono ?_;rintro e w' ⟨rfl,n,rfl⟩)
 go_ret2;exact ⟨rfl,_,rfl⟩
theorem rX (g h:Nat) (bs:List Nat) (p:Nat) (w:World) (r:cZ w g h bs p):
 Calls Tryz.prog 160 #[.pointer (some ⟨g,0,none⟩)] w fun e w'=>e=.returned (.tuple #[])/\
  cZ w' g h bs ((p+7) / 8 * 8)/\Ch (· =g) w w':=by
 have r':=r;have hl:=r.le;obtain ⟨A,c,b,rd,x,hp,hl',hok⟩:=r;have d1:w.cell? ⟨g,1,none⟩=some (.int .i64 (p:Int)):=b.cell 1;have d2:=b.frozen 1;clear b rd;go_enter Tryz.func160,Tryz.ntmps160;go_wp2
 go_end0
 exact ⟨rfl,r'.dZ (q:=(p+7) / 8 * 8) (by omega) 0,Ch.setCell (S:=(· =g)) (Ch.refl _ _) (p:=⟨g,1,none⟩) (fun _=>rfl) _⟩
end Go.Proofs.YtfljcllpmbnjaaaGreat
