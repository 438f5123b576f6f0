/- Contracts and plain laws that the last text rests on. Conditions: each theorem states its own. -/
import Derived.Test.YtpakjclpjcngmaaGreatKdQ4
import Derived.Test.YtpakjclpjcngmaaGreatKdPdLaw
import Derived.Test.YtpakjclpjcngmaaGreatKdQ2
import Derived.Deep.RegionLaw
import Derived.Deep.DeepCutAuto
import Derived.Deep.DrawnRows
import Derived.Laws.MakeOwn
import Derived.BigRegion
set_option maxRecDepth 100000
set_option maxHeartbeats 8000000
set_option linter.unusedVariables false
namespace Go.Proofs.YtpakjclpjcngmaaGreat
open Go.RowKit
theorem Tryz.info3:(Tryz.prog.info? 3).map (fun i=>(i.zero,i.size,i.bytes))=some (some (.int .i64 0),1,8):=by kernel_rfl
theorem Tryz.aaj:(Tryz.prog.info? 104).map (fun i=>(i.zero,i.size,i.bytes))=some (some (.int .u32 0),1,4):=by kernel_rfl
theorem sW {P:Program} (t e:TypeId) (i:TypeInfo) (z:Value) (ht:P.underlying t=some (.slice e)) (hi:P.info? e=some i) (hz:i.zero=some z)
 (kl kc:IntKind) (n c:Nat) (hnc:n<=c) (hbytes:i.bytes * c<=281474976710656) (h63:c<=9223372036854775807) (w:World):
 (Instr.makeSlice t (.int kl (n:Int)) (.int kc (c:Int))).run P w=.ok (.slice (some ⟨w.heap.size,0,none⟩) n c) (w.alloc (.cells (madeCells z.cells (c * i.size)) e)):=by
 have hb:(i.bytes:Int) * (c:Int)<=281474976710656:=by
  have h:((i.bytes * c:Nat):Int)<=281474976710656:=by omega
  rwa [Int.natCast_mul]at h
 have hr:=run_make (P:=P) w t e i z ht hi hz kl kc n c (by omega) (by omega) hb (by omega);simp only[Int.toNat_natCast]at hr;exact hr
theorem xP {P:Program} {ops:Array Oper} {rest:List Oper} {o:Oper} {a:Act} {Q:Exit->Act->World->Prop} (B:Nat) {w:World} (hB:w.heap.size=B) (hgd:o.guard=none) (s x:Operand) (t:TypeId)
 (ho:o.op=.call { callee:=.builtin .append,args:= #[s,x],argTypes:= #[t,t]})
 (e:TypeId) (i:TypeInfo) (z:Value) (bytes:Nat) (ht:P.underlying t=some (.slice e)) (hi:P.info? e=some i) (hz:i.zero=some z)
 (hsize:i.size=1) (hby:i.bytes=bytes) (hzs:z.cells.size=1)
 {W:World} {v:Value} {n:Nat} {xs:List Value} (u:Value) (hu:u.oneCell'=true) (hs:a.eval s=v) (hown:ay W w e 1 v n xs)
 (hx:a.eval x=.slice (some ⟨B,0,none⟩) 1 1)
 (h63:n+1<=maxLen) (hbytes:(n+1) * bytes<=140737488355328)
 (h:∀v' w',ay W w' e 1 v' (n+1) (xs++[u])->Moved w w' v v'->wpList P ops Q rest (a.put o.dst v') w'):wpList P ops Q (o::rest) a (w.alloc (.cells #[u] e)):=by
 subst hB;exact z08 hgd s x t ho e i z bytes ht hi hz hsize hby hzs u hu hs hown hx h63 hbytes h
theorem yX {W w0 w1:World} {e:TypeId} {size n b:Nat} {v':Value} {xs:List Value} (hnx:Nx W w0) (hb:W.heap.size<=b)
 (hown:w1.ownsRow W.heap.size e size v' (0+n) ([]++xs)) (hg:w0.grownBy w1 (Value.ownBlock (.slice (some ⟨b,0,none⟩) 0 0)))
 (hat:v'.ownBlock=Value.ownBlock (.slice (some ⟨b,0,none⟩) 0 0)∨v'.ownBlock=some w0.heap.size):
 ∃k cap,v'=.slice (some ⟨k,0,none⟩) n cap/\ay W w1 e size (.slice (some ⟨k,0,none⟩) n cap) n xs/\Ch (fun i=>i=b) w0 w1:=by
 have hc:Ch (fun i=>i=b) w0 w1:=(Ch.refl _ w0).grown hg (fun k hk _=>by simpa [Value.ownBlock]using hk.symm)
 obtain ⟨k,hk⟩:∃k,v'.ownBlock=some k:=by
  rcases hat with e|e
  ·exact ⟨_,e⟩
  ·exact ⟨_,e⟩
 simp only[Nat.zero_add,List.nil_append]at hown;obtain ⟨cap,hv,h1,h2⟩:=z2o hown hk;subst hv;exact ⟨k,cap,rfl,⟨hown,hnx.trans hc fun i hi e=>by omega⟩,hc⟩
def ET (lv wv sv:Value) (cn:Nat->Int):Array Value:=
 #[lv,wv,.int .i64 (cn 0),.int .i64 (cn 1),.int .i64 (cn 2),.int .i64 (cn 3),.int .i64 (cn 4),.int .i64 (cn 5),.int .i64 (cn 6),.int .i64 (cn 7),.int .i64 (cn 8),.int .i64 (cn 9),.int .i64 (cn 10),.int .i64 (cn 11),.int .i64 (cn 12),.int .i64 (cn 13),.int .i64 (cn 14),.int .i64 (cn 15),sv]
def wl (ws:List Nat):List Value:=ws.map fun x:Nat=>.int .u32 (x:Int)
structure Mk (W w:World) (t:Nat) (zs:List Int) (ws:List Nat) (cn:Nat->Int) (ss:List Int) (lv wv sv:Value):Prop where
 blk:aJ w t 349 (ET lv wv sv cn)
 lo:W.heap.size<=t
 len:ay W w 3 1 lv zs.length (il zs)
 xM:ay W w 104 1 wv ws.length (wl ws)
 srt:ay W w 3 1 sv ss.length (il ss)
theorem ZB (n:Nat):(madeCells #[Value.int .u32 0] n).toList=wl (List.replicate n 0):=by
 rw[toList_madeCells_one];simp[wl]
theorem Ro (W w:World) (n:Nat) (c:Nx W w) (hn:n<=maxLen):ay W (w.alloc (.cells (madeCells #[.int .u32 0] n) 104)) 104 1 (.slice (some ⟨w.heap.size,0,none⟩) (List.replicate n 0).length n) (List.replicate n 0).length (wl (List.replicate n 0)):=by
 rw[←ZB];have e:(List.replicate n 0).length=n:=by simp
 rw[e];exact ⟨World.ownsRow_lit w _ n c.size hn (by simp[size_madeCells]),c.alloc _⟩
theorem z41 (lv wv sv:Value) (cn:Nat->Int) (z:Nat) (hz:z<16):(ET lv wv sv cn)[2+z]?=some (.int .i64 (cn z)):=by
 rcases (show z=0∨z=1∨z=2∨z=3∨z=4∨z=5∨z=6∨z=7∨z=8∨z=9∨z=10∨z=11∨z=12∨z=13∨z=14∨z=15 by omega) with rfl|rfl|rfl|rfl|rfl|rfl|rfl|rfl|rfl|rfl|rfl|rfl|rfl|rfl|rfl|rfl<;>rfl
theorem VT (lv wv sv:Value) (cn:Nat->Int) (z:Nat) (hz:z<16) (v:Int):(ET lv wv sv cn).setIfInBounds (2+z) (.int .i64 v)=ET lv wv sv (fun m=>if m=z then v else cn m):=by
 rcases (show z=0∨z=1∨z=2∨z=3∨z=4∨z=5∨z=6∨z=7∨z=8∨z=9∨z=10∨z=11∨z=12∨z=13∨z=14∨z=15 by omega) with rfl|rfl|rfl|rfl|rfl|rfl|rfl|rfl|rfl|rfl|rfl|rfl|rfl|rfl|rfl|rfl<;>simp[ET]
theorem FV (lv wv sv sv':Value) (cn:Nat->Int):(ET lv wv sv cn).setIfInBounds 18 sv'=ET lv wv sv' cn:=by simp[ET]
theorem Me (lv wv sv:Value) {cn Vr:Nat->Int} (h:∀m,m<16->cn m=Vr m):ET lv wv sv cn=ET lv wv sv Vr:=by
 simp only[ET,h 0 (by omega),h 1 (by omega),h 2 (by omega),h 3 (by omega),h 4 (by omega),h 5 (by omega),h 6 (by omega),h 7 (by omega),h 8 (by omega),h 9 (by omega),h 10 (by omega),h 11 (by omega),h 12 (by omega),h 13 (by omega),h 14 (by omega),h 15 (by omega)]
theorem Vk {w:World} {b:Nat} {e t:TypeId} {s n g:Nat} {v:Value} {xs:List Value} {cs:Array Value} (h:w.ownsRow b e s v n xs) (hb:aJ w g t cs) (hne:e≠t):∀k,v.ownBlock=some k->k≠g:=by
 rintro k hk rfl;exact z06 h hb hne hk
theorem z3R {w:World} {b b':Nat} {e e':TypeId} {s s' n n':Nat} {v v':Value} {xs ys:List Value} (h:w.ownsRow b e s v n xs) (h':w.ownsRow b' e' s' v' n' ys) (hne:e≠e'):∀k,v.ownBlock=some k->v'.ownBlock≠some k:=by
 intro k hk;rcases h.2 with ⟨rfl,_⟩|⟨g,cap,cur,rfl,_,hh,_⟩
 ·simp[Value.ownBlock]at hk
 ·simp[Value.ownBlock]at hk
  subst hk;exact z06 h' hh (Ne.symm hne)
namespace Mk
variable {W w w' : World} {t : Nat} {zs ss : List Int} {ws : List Nat} {cn : Nat → Int} {lv wv sv : Value}
theorem Jg {Vr:Nat->Int} (m:Mk W w t zs ws cn ss lv wv sv) (h:∀i,i<16->cn i=Vr i):Mk W w t zs ws Vr ss lv wv sv:=
 ⟨by rw[←Me lv wv sv h];exact m.blk,m.lo,m.len,m.xM,m.srt⟩
theorem setT (m:Mk W w t zs ws cn ss lv wv sv) (i:Nat) (v:Value) {lv' wv' sv':Value} {Vr:Nat->Int} (h:(ET lv wv sv cn).setIfInBounds i v=ET lv wv sv Vr):
 Mk W (w.setCell ⟨t,i,none⟩ v) t zs ws Vr ss lv wv sv:=by
 have hc:Ch (fun j=>j=t) w (w.setCell ⟨t,i,none⟩ v):=Ch.setCell (S:=fun j=>j=t) (Ch.refl _ w) (p:=⟨t,i,none⟩) (fun _=>rfl) _;have hlo:=m.lo
 exact ⟨by rw[←h];exact m.blk.dX i v,m.lo,m.len.ch hc (Vk m.len.own m.blk (by decide)) (fun j hj e=>by omega),
  m.xM.ch hc (Vk m.xM.own m.blk (by decide)) (fun j hj e=>by omega),m.srt.ch hc (Vk m.srt.own m.blk (by decide)) (fun j hj e=>by omega)⟩
theorem count (m:Mk W w t zs ws cn ss lv wv sv) (z:Nat) (hz:z<16) (v:Int):Mk W (w.setCell ⟨t,2+z,none⟩ (.int .i64 v)) t zs ws (fun i=>if i=z then v else cn i) ss lv wv sv:=
 m.setT (lv':=lv) (wv':=wv) (sv':=sv) (2+z) _ (VT lv wv sv cn z hz v)
theorem drewN (m:Mk W w t zs ws cn ss lv wv sv) (k:Nat):Mk W (w.drewN k) t zs ws cn ss lv wv sv:=⟨m.blk,m.lo,m.len.drewN k,m.xM.drewN k,m.srt.drewN k⟩
theorem tr (m:Mk W w t zs ws cn ss lv wv sv) (c:Nx w w'):Mk W w' t zs ws cn ss lv wv sv:=⟨m.blk.nx c,m.lo,m.len.tr c,m.xM.tr c,m.srt.tr c⟩
theorem setW {kw c:Nat} (m:Mk W w t zs ws cn ss lv (.slice (some ⟨kw,0,none⟩) ws.length c) sv) (s x:Nat):
 Mk W (w.setCell ⟨kw,s,none⟩ (.int .u32 (x:Int))) t zs (ws.set s x) cn ss lv (.slice (some ⟨kw,0,none⟩) ws.length c) sv:=by
 have hc:Ch (fun j=>j=kw) w (w.setCell ⟨kw,s,none⟩ (.int .u32 (x:Int))):=Ch.setCell (S:=fun j=>j=kw) (Ch.refl _ w) (p:=⟨kw,s,none⟩) (fun _=>rfl) _;have hk:=m.xM.lt kw rfl;have hkt:kw≠t:=Vk m.xM.own m.blk (by decide) kw rfl;have hW:∀i,i<W.heap.size->¬i=kw:=fun i hi e=>by omega
 have hst:=(m.xM.own.stored s (.int .u32 (x:Int))).1;refine ⟨m.blk.ch hc (Ne.symm hkt),m.lo,m.len.ch hc (fun j hj e=>?_) hW,⟨?_,m.xM.nx.trans hc fun i hi e=>hW i hi e⟩,m.srt.ch hc (fun j hj e=>?_) hW⟩
 ·subst e
  exact z3R m.xM.own m.len.own (by decide) j rfl hj
 ·have e:(wl ws).set s (.int .u32 (x:Int))=wl (ws.set s x):=by simp[wl,List.map_set]
  rw[e]at hst;rw[List.length_set];exact hst
 ·subst e
  exact z3R m.xM.own m.srt.own (by decide) j rfl hj
theorem addS {sv':Value} {x:Int} (m:Mk W w t zs ws cn ss lv wv sv) (ha:∀k,sv.ownBlock=some k->lv.ownBlock≠some k) (ho:ay W w' 3 1 sv' (ss.length+1) (il ss++[.int .i64 x])) (hm:Moved w w' sv sv'):
 Mk W (w'.setCell ⟨t,18,none⟩ sv') t zs ws cn (ss++[x]) lv wv sv'/\∀k,sv'.ownBlock=some k->lv.ownBlock≠some k:=by
 have hW:∀i,i<W.heap.size->¬sv.ownBlock=some i:=fun i hi e=>by have:=m.srt.lt i e;omega
 have hb:aJ w' t 349 (ET lv wv sv cn):=m.blk.ch hm.ch (fun e=>Vk m.srt.own m.blk (by decide) t e rfl);have hc:Ch (fun j=>j=t) w' (w'.setCell ⟨t,18,none⟩ sv'):=Ch.setCell (S:=fun j=>j=t) (Ch.refl _ w') (p:=⟨t,18,none⟩) (fun _=>rfl) _;have hlo:=m.lo;have hT:∀i,i<W.heap.size->¬i=t:=fun i hi e=>by omega
 have hl:=m.len.ch hm.ch (fun k hk e=>ha k e hk) hW;have hw:=m.xM.ch hm.ch (fun k hk e=>z3R m.xM.own m.srt.own (by decide) k hk e) hW;refine ⟨⟨?_,m.lo,hl.ch hc (Vk hl.own hb (by decide)) hT,hw.ch hc (Vk hw.own hb (by decide)) hT,?_⟩,?_⟩
 ·rw[←FV lv wv sv sv' cn]
  exact hb.dX 18 sv'
 ·have e:il (ss++[x])=il ss++[.int .i64 x]:=by simp[il]
  rw[e,show (ss++[x]).length=ss.length+1 by simp];exact ho.ch hc (Vk ho.own hb (by decide)) hT
 ·intro k hk hk'
  rcases hm.at_ with e|⟨k2,e,h2⟩
  ·exact ha k (e▸hk) hk'
  ·rw[e]at hk
   injection hk with hk;have:=(m.len.lt k hk').2;omega
end Mk
theorem H_ {W w:World} {k kw cap n:Nat} {zs:List Int} (hz:zs.length=n) (ho:ay W w 3 1 (.slice (some ⟨k,0,none⟩) n cap) n (il zs)) (hw:ay W w 104 1 (.slice (some ⟨kw,0,none⟩) n n) n (wl (List.replicate n 0))):
 Mk W (w.alloc (.cells (ET (.slice (some ⟨k,0,none⟩) n cap) (.slice (some ⟨kw,0,none⟩) n n) (.slice none 0 0) (fun _=>0)) 349)) w.heap.size zs (List.replicate n 0) (fun _=>0) [] (.slice (some ⟨k,0,none⟩) n cap) (.slice (some ⟨kw,0,none⟩) n n) (.slice none 0 0):=
 ⟨aJ.new _ _ _,ho.nx.size,by rw[hz];exact ho.alloc _,by rw[List.length_replicate];exact hw.alloc _,ay.nil _ _ _ _ (ho.nx.alloc _)⟩
attribute [local go_sem ↓] Go.wp_at_zero Go.wp_at_succ
def codes (zs:List Int):List Nat:=(List.range zs.length).map fun s=>if zs.getD s 0=0 then 0 else iV zs s
def Vq (zs:List Int) (m:Nat):Int:=if m=0 then 0 else (cnt zs m:Int)
def abd (W:World) (zs:List Int) (e:Ending) (w':World):Prop:=
 (dV zs=0/\∃t lv wv sv,e=.returned (.tuple #[.pointer (some ⟨t,0,none⟩),.int .i64 0])/\Mk W w' t zs (codes zs) (Vq zs) (jd zs 15) lv wv sv)∨
 (dV zs≠0/\e=.returned (.tuple #[.pointer none,.int .i64 (dV zs)])/\Nx W w')
theorem Nw {zs:List Int} (hl:zs.length<=320) {k:Nat} (hk:k<zs.length) (h:zs[k]<0∨15<zs[k]):dV zs=1:=by
 unfold dV;rw[if_neg (by omega),if_pos ⟨zs[k],List.getElem_mem hk,h⟩]
def jm (zs:List Int) (j s:Nat):List Nat:=(List.range zs.length).map fun i=>if (0<zs.getD i 0/\zs.getD i 0<(j:Int))∨(zs.getD i 0=(j:Int)/\i<s) then iV zs i else 0
theorem z2D (zs:List Int) (j s:Nat):(jm zs j s).length=zs.length:=by simp[jm]
theorem Fg {zs:List Int} (h:∀i,i<zs.length->0<=zs.getD i 0):jm zs 1 0=List.replicate zs.length 0:=by
 unfold jm;rw[List.map_congr_left (g:=fun _=>0) (fun i hi=>by rw[if_neg (by omega)]),List.map_const'];simp
theorem Qg {zs:List Int} (h:∀i,i<zs.length->0<=zs.getD i 0/\zs.getD i 0<=15):jm zs 16 0=codes zs:=by
 unfold jm codes;refine List.map_congr_left fun i hi=>?_;have:=h i (List.mem_range.1 hi);by_cases e:zs.getD i 0=0
 ·rw[if_pos e,if_neg (by omega)]
 ·rw[if_neg e,if_pos (by omega)]
theorem LV {zs:List Int} (j:Nat) (hj:0<j):jm zs (j+1) 0=jm zs j zs.length:=by
 unfold jm;refine List.map_congr_left fun i hi=>?_;have:=List.mem_range.1 hi;by_cases e:(0<zs.getD i 0/\zs.getD i 0<(j:Int))∨(zs.getD i 0=(j:Int)/\i<zs.length)
 ·rw[if_pos e,if_pos (by omega)]
 ·rw[if_neg e,if_neg (by omega)]
theorem LU {zs:List Int} (j s:Nat) (hs:s<zs.length) (h:zs[s]≠(j:Int)):jm zs j (s+1)=jm zs j s:=by
 unfold jm;refine List.map_congr_left fun i hi=>?_;have hg:zs.getD s 0=zs[s]:=by simp[List.getD,hs]
 by_cases e:i=s
 ·subst e
  by_cases e2:0<zs.getD i 0/\zs.getD i 0<(j:Int)
  ·rw[if_pos (.inl e2),if_pos (.inl e2)]
  ·rw[if_neg (by omega),if_neg (by omega)]
 ·by_cases e2:(0<zs.getD i 0/\zs.getD i 0<(j:Int))∨(zs.getD i 0=(j:Int)/\i<s)
  ·rw[if_pos e2,if_pos (by omega)]
  ·rw[if_neg e2,if_neg (by omega)]
theorem Qe {zs:List Int} (j s:Nat) (hs:s<zs.length) (h:zs[s]=(j:Int)) (hj:0<j):jm zs j (s+1)=(jm zs j s).set s (2 * bZ zs (j-1)+rank zs j s):=by
 have hg:zs.getD s 0=zs[s]:=by simp[List.getD,hs]
 have hc:iV zs s=2 * bZ zs (j-1)+rank zs j s:=by
  have e:dR zs s=j:=by unfold dR;rw[hg,h];simp
  unfold iV;rw[e]
 apply List.ext_getElem
 ·simp[jm]
 ·intro i h1 h2
  rw[List.getElem_set];simp only[jm,List.getElem_map,List.getElem_range];by_cases e:s=i
  ·subst e
   rw[if_pos rfl,if_pos (.inr ⟨by rw[hg,h],by omega⟩),hc]
  ·rw[if_neg e]
   by_cases e2:(0<zs.getD i 0/\zs.getD i 0<(j:Int))∨(zs.getD i 0=(j:Int)/\i<s)
   ·rw[if_pos e2,if_pos (by omega)]
   ·rw[if_neg e2,if_neg (by omega)]
theorem CQ {zs:List Int} (hl:zs.length<=320) (h:∀z∈zs,0<=z/\z<=15):dV zs=if 32768<bZ zs 15∨(bZ zs 15<32768/\0<dD zs 15/\¬(dD zs 15=1/\cnt zs 1=1)) then 4 else 0:=by
 unfold dV;rw[if_neg (by omega),if_neg (by rintro ⟨z,hz,hb⟩;have:=h z hz;omega)]
theorem z5U {W w:World} (n:Nat) (c:Nx W w) (hn:n<=maxLen):ay W (w.alloc (.cells (madeCells #[.int .u32 0] n) 104)) 104 1 (.slice (some ⟨w.heap.size,0,none⟩) n n) n (wl (List.replicate n 0)):=by
 have:=Ro W w n c hn;simpa using this
set_option maxRecDepth 100000 in
theorem CW (D:Nat->Prop) (A:Option Addr) (n c:Nat) (zs:List Int) (W:World) (hr:Rd W D 1 A n (il zs)) (hzl:zs.length=n) (hn:n<=320):
 Calls Tryz.prog 302 #[.slice A n c] W (abd W zs):=by
 obtain ⟨i0,hi0,hz0,hz1,hz2⟩:=info_parts Tryz.info3;obtain ⟨i1,hi1,hy0,hy1,hy2⟩:=info_parts Tryz.aaj;have hmk:=fun w=>sW (P:=Tryz.prog) 346 104 i1 _ Tryz.underlying346 hi1 hy0 .i64 .i64 n n (Nat.le_refl _) (by rw[hy2];omega) (by omega) w;rw[hy1]at hmk;simp only[Nat.mul_one]at hmk;have hnn:¬(320<(n:Int)):=by omega
 go_enter Tryz.func302,Tryz.ntmps302;go_wp2_with fail;have h1:(W.alloc (.cells #[] 3)).ownsRow W.heap.size 3 1 (.slice (some ⟨W.heap.size,0,none⟩) 0 0) 0 []:=World.ownsRow_made W #[] 0 (Nat.le_refl _) (by simp[maxLen]) (by simp);have h2:((W.alloc (.cells #[] 3)).alloc (.cells (madeCells #[.int .u32 0] n) 104)).ownsRow W.heap.size 3 1 (.slice (some ⟨W.heap.size,0,none⟩) 0 0) 0 []:=h1.alloc _
 have h3:((W.alloc (.cells (madeCells #[.int .u32 0] n) 104)).alloc (.cells #[] 3)).ownsRow W.heap.size 3 1 (.slice (some ⟨W.heap.size+1,0,none⟩) 0 0) 0 []:=by
  have:=World.ownsRow_made (base:=W.heap.size) (size:=1) (e:=3) (W.alloc (.cells (madeCells #[.int .u32 0] n) 104)) #[] 0 (by simp) (by simp[maxLen]) (by simp);simpa using this
 have LC:=ah hzl;clear hzl;have H1:=ah h1;have H2:=ah h2;have H3:=ah h3;have R1:=ah (hr.nx (by omega) ((Ch.refl _ W).alloc (.cells #[] 3)));have R2:=ah ((hr.nx (by omega) ((Ch.refl _ W).alloc (.cells #[] 3))).nx (by omega) ((Ch.refl _ _).alloc (.cells (madeCells #[.int .u32 0] n) 104)));have R3:=ah ((hr.nx (by omega) ((Ch.refl _ W).alloc (.cells (madeCells #[.int .u32 0] n) 104))).nx (by omega) ((Ch.refl _ _).alloc (.cells #[] 3)));have hil:∀u∈il zs,u.oneCell'=true:=by intro u hu;simp only[il,List.mem_map]at hu;obtain ⟨x,_,rfl⟩:=hu;rfl
 have Hil:=ah hil;clear h1 h2 h3 hil;have N0:Nx W W:=Ch.refl _ W;have N1:=ah (N0.alloc (.cells #[] 3)).drew;have N2:=ah ((N0.alloc (.cells #[] 3)).alloc (.cells (madeCells #[.int .u32 0] n) 104)).drew;have N3:=ah ((N0.alloc (.cells (madeCells #[.int .u32 0] n) 104)).alloc (.cells #[] 3)).drew;clear N0;go_upto_region 3 with fail
 go_cut [4] (fun s4 wx=>∃(t k cap:Nat) (wv:Value),s4=.pointer (some ⟨t,0,none⟩)/\Mk W wx t zs (List.replicate n 0) (fun _=>0) [] (.slice (some ⟨k,0,none⟩) n cap) wv (.slice none 0 0))
 case first=>
  go_region_law (first
   |(refine PG _ (by rfl) (.tmp 17) (.tmp 18) _ (by rfl) W.heap.size 3 i0 _ 1 8 Tryz.underlying88 hi0 hz0 hz1 hz2 (by rfl) (by omega) (.slice (some ⟨W.heap.size,0,none⟩) 0 0) 0 [] (by rfl) H1.out D A n c (il zs) (by rfl) R1.out Hil.out (by simp only[maxLen];omega) (by omega) (by simp) ?_;intro v' w1 hown hg hat;obtain ⟨k,cap,hv,ho,hc⟩:=yX N1.out (Nat.le_refl _) hown hg hat;clear hown hg hat;rw[hv];clear hv)
   |(refine PG _ (by rfl) (.tmp 17) (.tmp 18) _ (by rfl) W.heap.size 3 i0 _ 1 8 Tryz.underlying88 hi0 hz0 hz1 hz2 (by rfl) (by omega) (.slice (some ⟨W.heap.size,0,none⟩) 0 0) 0 [] (by rfl) H2.out D A n c (il zs) (by rfl) R2.out Hil.out (by simp only[maxLen];omega) (by omega) (by simp;omega) ?_;intro v' w1 hown hg hat;obtain ⟨k,cap,hv,ho,hc⟩:=yX N2.out (Nat.le_refl _) hown hg hat;clear hown hg hat;rw[hv];clear hv)
   |(refine PG _ (by rfl) (.tmp 17) (.tmp 18) _ (by rfl) W.heap.size 3 i0 _ 1 8 Tryz.underlying88 hi0 hz0 hz1 hz2 (by rfl) (by omega) (.slice (some ⟨W.heap.size+1,0,none⟩) 0 0) 0 [] (by rfl) H3.out D A n c (il zs) (by rfl) R3.out Hil.out (by simp only[maxLen];omega) (by omega) (by simp;omega) ?_;intro v' w1 hown hg hat;obtain ⟨k,cap,hv,ho,hc⟩:=yX N3.out (by omega) hown hg hat;clear hown hg hat;rw[hv];clear hv))
  all_goals (go_wp2_with fail;go_meet)
  ·have:=H_ LC.out (ho.alloc _) (z5U n ho.nx (by simp only[maxLen];omega))
   simp only[World.size_alloc]at this;exact ⟨_,k,cap,_,rfl,this⟩
  ·have hw:=z5U (W:=W) (w:=W.alloc (.cells #[] 3)) n ((Ch.refl _ W).alloc _) (by simp only[maxLen];omega)
   simp only[World.size_alloc]at hw;have hw2:=(hw.tr ((Ch.refl _ _).drew)).ch hc (fun j hj e=>by simp[Value.ownBlock]at hj;omega) (fun i hi e=>by omega);exact ⟨_,k,cap,_,rfl,H_ LC.out ho hw2⟩
  ·have hw:=z5U (W:=W) (w:=W) n (Ch.refl _ W) (by simp only[maxLen];omega)
   have hw2:=((hw.alloc (.cells #[] 3)).tr ((Ch.refl _ _).drew)).ch hc (fun j hj e=>by simp[Value.ownBlock]at hj;omega) (fun i hi e=>by omega);exact ⟨_,k,cap,_,rfl,H_ LC.out ho hw2⟩
 case rest=>
  obtain ⟨t,k,cap,wv,rfl,hm⟩:=hcut;clear H1 H2 H3 R1 R2 R3 N1 N2 N3;go_wp2_with fail;go_loopw [27] (fun i wr=>∃j:Nat,j<=n/\i=.int .i64 j/\Hid (∀s,s<j->0<=zs.getD s 0/\zs.getD s 0<=15)/\Mk W wr t zs (List.replicate n 0) (fun m=>(rank zs m j:Int)) [] (.slice (some ⟨k,0,none⟩) n cap) wv (.slice none 0 0)) (fun i _=>n-(intOf i).toNat)
  case atStart=>exact ⟨0,by omega,rfl,ah (fun s h=>by omega),hm.Jg (fun i _=>by simp[rank])⟩
  case round=>
   clear hm;obtain ⟨j,hj,rfl,rO,m⟩:=hrel;by_cases hlt:j<n
   ·obtain ⟨ad,u,rfl,IB,hu,hc⟩:=(hr.nx (by omega) m.len.nx).at_ hlt
    have hjz:j<zs.length:=by rw[LC.out];exact hlt
    have hu2:u=.int .i64 zs[j]:=by simp[il,List.getElem?_eq_getElem hjz]at hu;exact hu.symm
    subst hu2;have hg:zs.getD j 0=zs[j]:=(by simp[List.getD,hjz]);have hrs:=fun i=>z3b zs i j hjz;have herr:=fun h=>Nw (zs:=zs) (by rw[LC.out];omega) hjz h;generalize zs[j]=z at *;have Hrs:=ah hrs;have Hg:=ah hg;have aeV:=ah herr;clear hrs hg herr hu;by_cases hbad:z<0∨15<z
    ·have hnx:=m.len.nx
     by_cases hz0':z<0
     all_goals
      go_wp2_with fail;go_ret2;refine .inr ⟨by rw[aeV.out hbad];decide,by rw[aeV.out hbad];rfl,hnx⟩
    ·obtain ⟨q,rfl⟩:=Int.eq_ofNat_of_zero_le (show 0<=z by omega)
     have hq:q<16:=(by omega);have hz0':¬((q:Int)<0):=(by omega);have hz1':¬(15<(q:Int)):=(by omega);have hcell:wr.cell? ⟨t,2+q,none⟩=some (.int .i64 (rank zs q j:Int)):=(m.blk.cell _).trans (z41 _ _ _ _ q hq);have hfr:=m.blk.frozen (2+q);have hrk:=yK zs q j;have hcn:=cnt_le zs q;have hrk2:rank zs q j<=320:=by have:=LC.out;omega
     clear hrk hcn;have M:=ah m;clear m;go_wp2_with fail;go_region
     go_wp2_with fail;go_roundw
     case rel=>
      refine ⟨j+1,by omega,by go_num,ah (fun s h=>?_),?_⟩
      ·by_cases hs:s=j
       ·subst hs;rw[Hg.out];omega
       ·exact rO.out s (by omega)
      ·have:=(M.out.count q hq ((rank zs q j:Int)+1)).Jg (Vr:=fun i=>(rank zs i (j+1):Int)) (fun i hi=>by
        rw[Hrs.out i];by_cases e:i=q
        ·subst e;simp
        ·rw[if_neg e,if_neg (by omega)];simp)
       exact this.tr ((Ch.refl _ _).drew)
     case measure=>simp[intOf];omega
   ·obtain rfl:j=n:=by omega
    have c2:wr.cell? ⟨t,2,none⟩=some (.int .i64 (rank zs 0 j:Int)):=(m.blk.cell _).trans (z41 _ _ _ _ 0 (by omega));have f2:=m.blk.frozen 2
    have m0:=(m.count 0 (by omega) 0).Jg (Vr:=Vq zs) (fun i _=>by
     have h1:=z5g zs i;rw[LC.out]at h1;unfold Vq;rw[h1])
    have M0:=ah m0;have hzl:=LC.out;clear m m0 hlt hj;subst hzl;go_wp2_with fail;have m:=M0.out;simp only[Nat.add_zero]at m;clear M0 c2 f2;generalize wr.setCell ⟨t,2,none⟩ (.int .i64 0)=w2 at *;go_loop [7,8,9] (fun r al q=>∃i:Nat,1<=i/\i<=16/\q=.int .i64 i/\r=.int .i64 (32768-(lW zs (i-1):Int))/\al=.int .i64 (dD zs (i-1):Int)) (fun _ _ q=>16-(intOf q).toNat)
    case atStart=>exact ⟨1,by omega,by omega,rfl,by simp[lW],by simp[dD]⟩
    case round=>
     obtain ⟨i,hi1,hi2,rfl,rfl,rfl⟩:=hrel;by_cases h15:i<=15
     ·have hcell:w2.cell? ⟨t,2+i,none⟩=some (.int .i64 (cnt zs i:Int)):=by
       have:=(m.blk.cell _).trans (z41 _ _ _ _ i (by omega));rw[this];simp only[Vq,if_neg (show ¬i=0 by omega)]
      have b0:(0:Int)<=15-(i:Int):=(by omega);have b1:=Kr zs (i-1) (by omega) hn;have b2:=z5r zs (i-1) (by omega) hn;have b3:=cnt_le zs i;have b4:=vw zs (i-1) hn
      have e1:lW zs i=lW zs (i-1)+cnt zs i * 2 ^ (15-i):=by
       obtain ⟨j',rfl⟩:∃j',i=j'+1:=⟨i-1,by omega⟩;simp only[lW,Nat.add_sub_cancel];rw[show 15-(j'+1)=14-j' by omega]
      have e2:dD zs i=dD zs (i-1)+cnt zs i:=by
       obtain ⟨j',rfl⟩:∃j',i=j'+1:=⟨i-1,by omega⟩;rfl
      rw[show i-1+1=i by omega,show 14-(i-1)=15-i by omega]at b4;have E1:=ah e1;have E2:=ah e2;clear e1 e2;go_wp2_with fail;go_round
      case rel=>
       refine ⟨i+1,by omega,by omega,by go_num,?_,?_⟩
       ·have e3:((cnt zs i:Int) * 2 ^ (15-i))=((cnt zs i * 2 ^ (15-i):Nat):Int):=by simp
        rw[e3,Nat.add_sub_cancel,E1.out];generalize cnt zs i * 2 ^ (15-i)=x at *;rw[IntWalk.wrap64_in (x:Int) ⟨by omega,by omega⟩,IntWalk.wrap64_in _ ⟨by omega,by omega⟩];congr 1
        omega
       ·rw[Nat.add_sub_cancel,E2.out]
        first
         |(rw[IntWalk.wrap64_in _ ⟨by omega,by omega⟩];congr 1)
         |(congr 1)
      case measure=>simp[intOf];omega
     ·obtain rfl:i=16:=by omega
      have b1:=Kr zs 15 (by omega) hn;have b2:=z5r zs 15 (by omega) hn;have e1:=VZ zs 15 (by omega);simp only[Nat.sub_self,Nat.pow_zero,Nat.mul_one]at e1;have hc1:w2.cell? ⟨t,3,none⟩=some (.int .i64 (cnt zs 1:Int)):=(m.blk.cell _).trans (z41 _ _ _ _ 1 (by omega));have Zb:=rO
      have rO:=ah (CQ hn (fun z hz=>by
       obtain ⟨s,hs,rfl⟩:=List.getElem_of_mem hz;have:=rO.out s hs;simpa [List.getD,hs]using this))
      rw[e1]at b1;simp only[show 16-1=15 from rfl,e1];clear e1;generalize hE:bZ zs 15=E at *;generalize hA:dD zs 15=AA at *;have HE:=ah hE;have HA:=ah hA;clear hE hA;clear b1;generalize hR:32768-(E:Int)=R at *;have HR:=ah hR;clear hR;by_cases hk:32768<E∨(E<32768/\0<AA/\¬(AA=1/\cnt zs 1=1))
      ·have hnx:=m.len.nx
       have he:=rO.out;rw[if_pos hk]at he;have He:=ah he;have hk':=ah hk;clear he hk;by_cases hk1:R<0
       ·go_wp2_with fail
        go_ret2;exact .inr ⟨by rw[He.out];decide,by rw[He.out];rfl,hnx⟩
       ·have hk3:(0:Int)<R:=by have:=HR.out;have:=hk'.out;omega
        have hk4:(0:Int)<(AA:Int):=by have:=HR.out;have:=hk'.out;omega
        by_cases hk5:AA=1
        ·have hk7:((cnt zs 1:Int)==1)=false:=by rw[beq_eq_false_iff_ne];have:=HR.out;have:=hk'.out;omega
         subst hk5;go_wp2_with fail;go_ret2;exact .inr ⟨by rw[He.out];decide,by rw[He.out];rfl,hnx⟩
        ·have hk6:((AA:Int)==1)=false:=by rw[beq_eq_false_iff_ne];omega
         go_wp2_with fail;go_ret2;exact .inr ⟨by rw[He.out];decide,by rw[He.out];rfl,hnx⟩
      ·have he:=rO.out
       rw[if_neg hk]at he;have He:=ah he;have hk':=ah hk;clear he hk;have YO:bZ zs 15<=32768:=by rw[HE.out];have:=hk'.out;omega
       have Hle:=ah (fun j hj=>Lh YO j hj);have hst:=Fg (zs:=zs) (fun i hi=>(Zb.out i hi).1);have hen:=Qg (zs:=zs) Zb.out;have HST:=ah hst;have HEN:=ah hen;clear YO hst hen;have hkA:¬R<0:=by have:=HR.out;have:=hk'.out;omega
       have adL:R=0∨(0<R/\AA=0)∨(0<R/\AA=1/\cnt zs 1=1):=by have:=HR.out;have:=hk'.out;omega
       rcases adL with rfl|⟨h32,rfl⟩|⟨h32,rfl,hcc⟩
       rotate_right
       have hk7:w2.cell? ⟨t,3,none⟩=some (.int .i64 1):=by rw[hc1,hcc];rfl
       clear hc1 hcc;rotate_left
       all_goals
        go_wp2_with fail;have m1:Mk W w2 t zs (jm zs 1 0) (Vq zs) (jd zs 0) (.slice (some ⟨k,0,none⟩) zs.length cap) wv (.slice none 0 0):=by rw[HST.out];exact m
        go_loopw [10,11] (fun x q wr=>∃(i:Nat) (sv:Value),1<=i/\i<=16/\q=.int .i64 i/\x=.int .u32 (bZ zs (i-1):Int)/\Mk W wr t zs (jm zs i 0) (Vq zs) (jd zs (i-1)) (.slice (some ⟨k,0,none⟩) zs.length cap) wv sv/\Hid (∀b,sv.ownBlock=some b->(Value.slice (some ⟨k,0,none⟩) zs.length cap).ownBlock≠some b)) (fun _ q _=>16-(intOf q).toNat)
        case atStart=>exact ⟨1,_,by omega,by omega,rfl,rfl,m1,ah (fun b hb=>by simp[Value.ownBlock]at hb)⟩
        case round=>
         clear m1 m;obtain ⟨i,sv,hi1,hi2,rfl,rfl,m,hap⟩:=hrel;obtain ⟨wo,rfl⟩:∃wo:World,wo=wr:=⟨_,rfl⟩;by_cases h15:i<=15
         ·have hX:bZ zs (i-1)<=16384:=by
           have h1:=Hle.out (i-1) (by omega);have h2:(2:Nat) ^ (i-1)<=2 ^ 14:=Nat.pow_le_pow_right (by omega) (by omega);omega
          have hJ:2 * bZ zs (i-1)+cnt zs i<=32768:=by
           have h1:=Hle.out i (by omega);have h2:(2:Nat) ^ i<=2 ^ 15:=Nat.pow_le_pow_right (by omega) (by omega);obtain ⟨j',rfl⟩:∃j',i=j'+1:=⟨i-1,by omega⟩;have e:bZ zs (j'+1)=2 * bZ zs j'+cnt zs (j'+1):=rfl;rw[Nat.add_sub_cancel];omega
          have hen:bZ zs i=2 * bZ zs (i-1)+cnt zs i:=by
           obtain ⟨j',rfl⟩:∃j',i=j'+1:=⟨i-1,by omega⟩;rfl
          have hso:jd zs i=jd zs (i-1)++AZ zs i zs.length:=by
           obtain ⟨j',rfl⟩:∃j',i=j'+1:=⟨i-1,by omega⟩;rfl
          have hset:=fun s hs h=>Qe (zs:=zs) i s hs h (by omega);generalize bZ zs (i-1)=X at *;have HJ:=ah hJ;have HN:=ah hen;have HO:=ah hso;have Hset:=ah hset;clear hJ hen hso hset;go_wp2_with fail;go_loopw [10,106] (fun x q wr=>∃(s:Nat) (sv:Value),s<=zs.length/\q=.int .i64 s/\x=.int .u32 ((2 * X+rank zs i s:Nat):Int)/\Mk W wr t zs (jm zs i s) (Vq zs) (jd zs (i-1)++AZ zs i s) (.slice (some ⟨k,0,none⟩) zs.length cap) wv sv/\Hid (∀b,sv.ownBlock=some b->(Value.slice (some ⟨k,0,none⟩) zs.length cap).ownBlock≠some b)) (fun _ q _=>zs.length-(intOf q).toNat)
          case atStart=>exact ⟨0,sv,by omega,rfl,by simp[rank];omega,by simpa [AZ]using m,hap⟩
          case round=>
           clear m hap;obtain ⟨s,sv,hs,rfl,rfl,m,hap⟩:=hrel;by_cases hlt2:s<zs.length
           ·obtain ⟨ad,u,rfl,IB,hu,hc⟩:=(hr.nx (by omega) m.len.nx).at_ hlt2
            have hu2:u=.int .i64 zs[s]:=by simp[il,List.getElem?_eq_getElem hlt2]at hu;exact hu.symm
            subst hu2;have hrs:=z3b zs i s hlt2;have hss:=z3P zs i s hlt2;have hsk:=LU (zs:=zs) i s hlt2;have hst2:=Hset.out s hlt2;have hrl:=yK zs i s;have hrl2:2 * X+rank zs i s<=32768:=by have:=HJ.out;omega
            have hrl3:jd zs (i-1)++AZ zs i s=jd zs (i-1)++AZ zs i s:=rfl
            have hsl:(jd zs (i-1)++AZ zs i s).length<=6000:=by
             rw[List.length_append,z20,z1X zs i s hs];have:=z5r zs (i-1) (by omega) hn;have:=cnt_le zs i;omega
            generalize zs[s]=z at *;have Hrs:=ah hrs;have Hss:=ah hss;have Hsk:=ah hsk;have jT:=ah hst2;clear hrs hss hsk hst2 hu hrl hrl3;generalize rank zs i s=rk at *;generalize hSS:jd zs (i-1)++AZ zs i s=SS at *;have r_:=ah hSS;clear hSS;by_cases hz:z=(i:Int)
            ·subst hz
             obtain ⟨kw,cw,rfl,_,_⟩:=m.xM.own.form (by rw[z2D];omega);have d1:wr.cell? ⟨t,1,none⟩=some (.slice (some ⟨kw,0,none⟩) (jm zs i s).length cw):=m.blk.cell 1;have d18:wr.cell? ⟨t,18,none⟩=some sv:=m.blk.cell 18;have hkt:kw≠t:=Vk m.xM.own m.blk (by decide) kw rfl;have hkt':t≠kw:=Ne.symm hkt
             obtain ⟨uw,huw⟩:∃uw,wr.cell? ⟨kw,s,none⟩=some uw:=by
              have hl:s<(wl (jm zs i s)).length:=by simp[wl,z2D];omega
              exact ⟨_,(m.xM.own.cellAt s (by rw[z2D];omega)).trans (List.getElem?_eq_getElem hl)⟩
             have fw:=m.xM.own.frozenAt s;have m2:=m.setW s (2 * X+rk);rw[show ((2 * X+rk:Nat):Int)=2 * (X:Int)+(rk:Int) by simp]at m2;have M2:=ah m2;clear m2;have hr2:2 * (X:Int)+(rk:Int)<=32768:=(by omega);have hwl:=z2D zs i s;rw[hwl]at d1;have WL:=ah hwl;clear m hwl;go_wp2_with (at_builtin;refine xP wr.heap.size (by simp) rfl (.tmp 127) (.tmp 129) _ rfl 3 i0 _ 8 Tryz.underlying88 hi0 hz0 hz1 hz2 rfl _ rfl rfl M2.out.srt rfl (by simp only[maxLen];omega) (by omega) ?_;intro sv' w3 ho3 hmv;have b3:=M2.out.blk.ch hmv.ch (fun e=>Vk M2.out.srt.own M2.out.blk (by decide) t e rfl);have d3:w3.cell? ⟨t,18,none⟩=some sv:=b3.cell 18;have f3:=b3.frozen 18;clear b3;obtain ⟨A3,c3,hsv,_,_⟩:=ho3.form;rw[hsv]at ho3 hmv ⊢;clear hsv)
             have hfin:=M2.out.addS hap.out ho3 hmv;clear hmv ho3;go_roundw
             case rel=>
              refine ⟨_,_,_,_,⟨s+1,by omega,?_,?_,_,?_,ah hfin.2⟩,rfl,rfl,rfl,rfl⟩
              ·go_num
              ·have h:=Hrs.out
               simp only[if_true]at h;rw[h];go_num
              have h2:=Hss.out;simp only[if_true]at h2;rw[jT.out trivial,h2,←List.append_assoc,r_.out];have h1:=hfin.1;exact h1
             case measure=>simp[intOf];omega
            ·have hz':(z==(i:Int))=false:=by rw[beq_eq_false_iff_ne];exact hz
             go_wp2_with fail;go_roundw
             case rel=>
              refine ⟨s+1,sv,by omega,by go_num,by rw[Hrs.out,if_neg hz];go_num,?_,hap⟩;rw[Hsk.out hz,Hss.out,if_neg hz,List.append_nil,r_.out];exact m
             case measure=>simp[intOf];omega
           ·obtain rfl:s=zs.length:=by omega
            go_wp2_with fail;go_roundw
            case rel=>
             refine ⟨i+1,sv,by omega,by omega,by go_num,?_,?_,hap⟩
             ·rw[Nat.add_sub_cancel,HN.out,z5g]
             ·rw[Nat.add_sub_cancel,HO.out,LV i (by omega)]
              exact m
            case measure=>simp[intOf];omega
         ·obtain rfl:i=16:=by omega
          go_wp2_with fail;go_ret2;exact .inl ⟨He.out,t,_,wv,sv,rfl,by rw[←HEN.out];exact m⟩
end Go.Proofs.YtpakjclpjcngmaaGreat
namespace Go.Proofs.YtpakjclpjcngmaaGreat
open Go.RowKit
structure jD (w:World) (D:Nat->Prop) (t:Nat) (zs:List Int):Prop where
 err:dV zs=0
 tin:D t
 mem:∃A1 c1 A2 c2 A3 c3,aJ w t 349 (ET (.slice A1 zs.length c1) (.slice A2 zs.length c2) (.slice A3 (jd zs 15).length c3) (Vq zs))/\
  Rd w D 1 A1 zs.length (il zs)/\Rd w D 1 A2 zs.length (wl (codes zs))/\Rd w D 1 A3 (jd zs 15).length (il (jd zs 15))
theorem zN (zs:List Int):(codes zs).length=zs.length:=by simp[codes]
theorem z5i {zs:List Int} (h:dV zs=0):zs.length<=320/\(∀z∈zs,0<=z/\z<=15)/\bZ zs 15<=32768/\(bZ zs 15=32768∨dD zs 15=0∨(dD zs 15=1/\cnt zs 1=1)):=by
 unfold dV at h;split at h
 ·omega
 ·split at h
  ·omega
  ·next h1 h2=>
   split at h
   ·omega
   ·next h3=>
    refine ⟨by omega,fun z hz=>?_,by omega,by omega⟩;have:¬(z<0∨15<z):=fun hb=>h2 ⟨z,hz,hb⟩;omega
theorem jD.adC {W w:World} {t:Nat} {zs:List Int} {lv wv sv:Value} (he:dV zs=0) (m:Mk W w t zs (codes zs) (Vq zs) (jd zs 15) lv wv sv):jD w (fun k=>W.heap.size<=k/\k<w.heap.size) t zs:=by
 obtain ⟨A1,c1,rfl,_,_⟩:=m.len.form;obtain ⟨A2,c2,rfl,_,_⟩:=m.xM.form;obtain ⟨A3,c3,rfl,_,_⟩:=m.srt.form;have hw:=m.xM.rd;have hb:=m.blk;rw[zN]at hw hb;exact ⟨he,⟨m.lo,m.blk.lt⟩,A1,c1,A2,c2,A3,c3,hb,m.len.rd.more fun k hk=>hk.2,hw.more fun k hk=>hk.2,m.srt.rd.more fun k hk=>hk.2⟩
theorem jD.ch {w w':World} {D:Nat->Prop} {t:Nat} {zs:List Int} {S:Nat->Prop} (h:jD w D t zs) (c:Ch S w w') (hS:∀k,D k->¬S k):jD w' D t zs:=by
 obtain ⟨he,ht,A1,c1,A2,c2,A3,c3,b,r1,r2,r3⟩:=h;exact ⟨he,ht,A1,c1,A2,c2,A3,c3,b.ch c (hS _ ht),r1.ch (by omega) c (fun k _=>hS k),r2.ch (by omega) c (fun k _=>hS k),r3.ch (by omega) c (fun k _=>hS k)⟩
theorem WS (D:Nat->Prop) (A:Option Addr) (n c:Nat) (zs:List Int) (W:World) (hr:Rd W D 1 A n (il zs)) (hl:zs.length=n) (hn:n<=320) (he:dV zs=0):
 Calls Tryz.prog 302 #[.slice A n c] W fun e w'=>∃t,e=.returned (.tuple #[.pointer (some ⟨t,0,none⟩),.int .i64 0])/\jD w' (fun k=>W.heap.size<=k/\k<w'.heap.size) t zs/\Nx W w':=by
 refine (CW D A n c zs W hr hl hn).mono fun e w' h=>?_;rcases h with ⟨_,t,lv,wv,sv,rfl,m⟩|⟨h,_⟩
 ·exact ⟨t,rfl,jD.adC he m,m.len.nx⟩
 ·exact absurd he h
theorem RZ (D:Nat->Prop) (A:Option Addr) (n c:Nat) (zs:List Int) (W:World) (hr:Rd W D 1 A n (il zs)) (hl:zs.length=n) (hn:n<=320) (he:dV zs≠0):
 Calls Tryz.prog 302 #[.slice A n c] W fun e w'=>e=.returned (.tuple #[.pointer none,.int .i64 (dV zs)])/\Nx W w':=by
 refine (CW D A n c zs W hr hl hn).mono fun e w' h=>?_;rcases h with ⟨h,_⟩|⟨_,h⟩
 ·exact absurd h he
 ·exact h
theorem aam {zs:List Int} {k:Nat} (h:k<zs.length):(il zs)[k]?=some (.int .i64 zs[k]):=by simp[il,h]
def oH (bs:List Nat) (p:Nat) (i:Nat):Nat:=iY bs (p+i)
theorem z6v (bs:List Nat) (p:Nat) (i:Nat):oH bs p i<2:=z5q _ _
def dL (zs:List Int) (bs:List Nat) (p:Nat):Nat->Nat->Int×Int×Nat
 |0,n=>(0,4,p+n)
 |k+1,n=>
  if dD zs 15<=dD zs n then (0,4,p+n) else
  if 8 * bs.length<=p+n then (0,3,p+n) else
  if msb (oH bs p) (n+1)<2 * bZ zs n+cnt zs (n+1) then ((jd zs 15).getD (dD zs n+(msb (oH bs p) (n+1)-2 * bZ zs n)) 0,0,p+n+1)
  else dL zs bs p k (n+1)
theorem ZP (w x:Nat) (hw:w<2147483648) (hx:x<2):bits .or .i64 (2 * (w:Int)) (x:Int)=((2 * w+x:Nat):Int):=by
 have e:(2 * w)|||x=2 * w+x:=by
  have:=Nat.two_pow_add_eq_or_of_lt (i:=1) (b:=x) (by omega) w;simpa using this.symm
 have h1:(BitVec.ofInt 64 (2 * (w:Int))).toNat=2 * w:=by
  rw[show 2 * (w:Int)=((2 * w:Nat):Int) by simp,BitVec.ofInt_natCast,BitVec.toNat_ofNat];exact Nat.mod_eq_of_lt (by omega)
 have h2:(BitVec.ofInt 64 (x:Int)).toNat=x:=by
  rw[BitVec.ofInt_natCast,BitVec.toNat_ofNat];exact Nat.mod_eq_of_lt (by omega)
 show IntKind.i64.wrap ((BitVec.ofInt 64 (2 * (w:Int))|||BitVec.ofInt 64 (x:Int)).toNat:Int)=_
 rw[BitVec.toNat_or,h1,h2,e,IntKind.wrap_i64];omega
set_option maxRecDepth 100000 in
theorem next_any (D:Nat->Prop) (t:Nat) (zs:List Int) (g h:Nat) (bs:List Nat) (p:Nat) (w:World) (ht:jD w D t zs) (r:cZ w g h bs p) (hD:¬D g):
 Calls Tryz.prog 308 #[.pointer (some ⟨t,0,none⟩),.pointer (some ⟨g,0,none⟩)] w fun e w'=>
  e=.returned (.tuple #[.int .i64 (dL zs bs p 15 0).1,.int .i64 (dL zs bs p 15 0).2.1])/\cZ w' g h bs (dL zs bs p 15 0).2.2/\Ch (· =g) w w':=by
 have hok:=z5i ht.err;obtain ⟨hn, -,he15, -⟩:=hok;have hle:=r.le;have hf:=z6v bs p;have Hf:=ah hf;clear hf;go_enter Tryz.func308,Tryz.ntmps308;go_wp2_with fail
 go_loopw [6,7,8,9] (fun wd fi at_ q wr=>∃n:Nat,n<=15/\q=.int .i64 ((n:Int)+1)/\wd=.int .i64 (msb (oH bs p) n:Int)/\fi=.int .i64 (bZ zs n:Int)/\at_=.int .i64 (dD zs n:Int)/\
  Hid (dL zs bs p 15 0=dL zs bs p (15-n) n)/\Past zs (oH bs p) n/\cZ wr g h bs (p+n)/\Ch (· =g) w wr) (fun _ _ _ q _=>16-(intOf q).toNat)
 case atStart=>exact ⟨0,by omega,by simp,rfl,rfl,rfl,ah rfl,Nk _ _,r,Ch.refl _ _⟩
 case round=>
  obtain ⟨n,hn15,rfl,rfl,rfl,rfl,Hx,hp,q,hc⟩:=hrel;have ht2:=ht.ch hc (fun k hk e=>hD (e▸hk));obtain ⟨A1,c1,A2,c2,A3,c3,b,r1,r2,r3⟩:=ht2.mem;have d3:wr.cell? ⟨t,18,none⟩=some (.slice A3 (jd zs 15).length c3):=b.cell 18;have hal:=z5r zs 15 (by omega) hn;have hal2:=z4q zs n (15-n);rw[show n+(15-n)=15 by omega]at hal2;have hsl:=z20 zs 15;rw[hsl]at d3 r3;by_cases h15:n<15
  ·have hcnt:wr.cell? ⟨t,2+(n+1),none⟩=some (.int .i64 (cnt zs (n+1):Int)):=by
    have:=(b.cell _).trans (z41 _ _ _ _ (n+1) (by omega));rw[this];simp only[Vq,if_neg (show ¬(n+1=0) by omega)]
   have hcl:=cnt_le zs (n+1)
   have hnx:dL zs bs p (15-n) n=if dD zs 15<=dD zs n then (0,4,p+n) else
    if 8 * bs.length<=p+n then (0,3,p+n) else
    if msb (oH bs p) (n+1)<2 * bZ zs n+cnt zs (n+1) then ((jd zs 15).getD (dD zs n+(msb (oH bs p) (n+1)-2 * bZ zs n)) 0,0,p+n+1)
    else dL zs bs p (14-n) (n+1):=by
    rw[show 15-n=(14-n)+1 by omega];rfl
   have hm1:=ZX _ Hf.out n;have hm2:(2:Nat) ^ n<=2 ^ 14:=Nat.pow_le_pow_right (by omega) (by omega);have hm:msb (oH bs p) n<16384:=by omega
   have hen:bZ zs n<=32768:=by
    have:=Lh he15 n (by omega);omega
   have hfst:=GU hp;have hstep:=Nl hp;have hms:msb (oH bs p) (n+1)=2 * msb (oH bs p) n+iY bs (p+n):=rfl;have hor:=ZP (msb (oH bs p) n) (iY bs (p+n)) (by omega) (z5q _ _);rw[←hms,Int.mul_comm]at hor;have hb2:=z5q bs (p+n);have hWb:msb (oH bs p) (n+1)<=32768:=by rw[hms];omega
   have hea:dD zs (n+1)=dD zs n+cnt zs (n+1):=rfl;have hee:bZ zs (n+1)=2 * bZ zs n+cnt zs (n+1):=rfl;have Hea:=ah hea;have Hee:=ah hee;have Vu:=ah (Hx.out.trans hnx);have jv:=ah hstep;clear hnx hstep hea hee hms hm1 hm2 hp Hx b r1 r2 ht2;generalize hW:msb (oH bs p) (n+1)=W' at *;have HW:=ah hW;clear hW;generalize msb (oH bs p) n=w0 at *;generalize hE:bZ zs n=E at *;have HE:=ah hE;clear hE;by_cases hstop:dD zs 15<=dD zs n
   ·have he:=Vu.out
    rw[if_pos hstop]at he;have Hv:=ah he;clear he hor;go_wp2_with fail;go_ret2;rw[Hv.out];exact ⟨rfl,q,hc⟩
   ·by_cases hshort:8 * bs.length<=p+n
    ·have he:=Vu.out
     rw[if_neg hstop,if_pos hshort]at he;have Hv:=ah he;clear he hor;go_wp2_with fail;with_reducible refine (z2r g h bs (p+n) 1 _ q (by omega) (by omega) (by omega)).mono ?_
     rintro e w3 ⟨rfl,n3,rfl⟩;go_wp2_with fail;go_ret2;rw[Hv.out];exact ⟨rfl,q.nx (Dr.CP _ _).nx,hc.drewN _⟩
    ·by_cases hhit:W'<2 * E+cnt zs (n+1)
     ·have he:=Vu.out
      rw[if_neg hstop,if_neg hshort,if_pos hhit]at he;have Hv:=ah he;have hlt3:dD zs n+W'-E * 2<dD zs 15:=by have:=Hea.out;have h2:=z4q zs (n+1) (14-n);rw[show n+1+(14-n)=15 by omega]at h2;omega
      obtain ⟨ad,u,rfl,IB,hu,Vo⟩:=r3.at_ (k:=dD zs n+W'-E * 2) hlt3
      have hu2:u=.int .i64 ((jd zs 15).getD (dD zs n+(W'-2 * E)) 0):=by
       rw[aam (by rw[hsl];exact hlt3)]at hu;injection hu with hu;rw[←hu,show dD zs n+(W'-2 * E)=dD zs n+W'-E * 2 by omega];simp[List.getD,hsl,hlt3]
      subst hu2;generalize (jd zs 15).getD (dD zs n+(W'-2 * E)) 0=sy at *;have aec:(W':Int)-(E:Int) * 2<(cnt zs (n+1):Int):=(by omega);clear he hu;have Hsl:=ah hsl;clear hsl;go_wp2_with fail;with_reducible refine (qc g h bs (p+n) _ q (by omega)).mono ?_
      rintro e w3 ⟨rfl,q3,ch3⟩;have kp:∀x:Addr,D x.block->∀v,wr.cell? x=some v->w3.cell? x=some v:=fun x hx v hv=>(ch3.cell (World.block_lt_of_cell? _ _ hv) (fun e=>hD (e▸hx))).trans hv;have aek:=kp _ ht.tin _ hcnt;have d33:=kp _ ht.tin _ d3;have hcu3:=kp _ (by rw[Ak];exact IB) _ Vo;clear kp hcnt d3 Vo;go_wp2_with fail;go_ret2;rw[Hv.out];exact ⟨rfl,q3,hc.trans ch3 (fun _ _ e=>e)⟩
     ·have he:=Vu.out
      rw[if_neg hstop,if_neg hshort,if_neg hhit]at he
      have hp':Past zs (oH bs p) (n+1):=by
       rcases jv.out with h|h
       ·exact absurd h hhit
       ·exact h
      have Hv:=ah he;have aec:¬((W':Int)-(E:Int) * 2<(cnt zs (n+1):Int)):=(by omega);clear he r3 hal2;have Hsl:=ah hsl;clear hsl;go_wp2_with fail;with_reducible refine (qc g h bs (p+n) _ q (by omega)).mono ?_
      rintro e w3 ⟨rfl,q3,ch3⟩;have kp:∀x:Addr,D x.block->∀v,wr.cell? x=some v->w3.cell? x=some v:=fun x hx v hv=>(ch3.cell (World.block_lt_of_cell? _ _ hv) (fun e=>hD (e▸hx))).trans hv;have aek:=kp _ ht.tin _ hcnt;clear kp hcnt;go_wp2_with fail;go_roundw
      case rel=>
       refine ⟨n+1,by omega,by go_num,by rw[HW.out],?_,?_,?_,hp',q3,hc.trans ch3 (fun _ _ e=>e)⟩
       ·rw[Hee.out];go_num
       ·rw[Hea.out];go_num
       ·exact ah (by rw[Hv.out,show 15-(n+1)=14-n by omega])
      case measure=>simp[intOf];omega
  ·obtain rfl:n=15:=by omega
   have hv:=Hx.out;have e0:dL zs bs p (15-15) 15=(0,4,p+15):=rfl;rw[e0]at hv;have Hv:=ah hv;clear hv e0;go_wp2_with fail;go_ret2;rw[Hv.out];exact ⟨rfl,q,hc⟩
end Go.Proofs.YtpakjclpjcngmaaGreat
namespace Go.Proofs.YtpakjclpjcngmaaGreat
structure Inf where
 p:Nat
 out:List Nat
 e:Int
def aN (e:Int) (s:Inf):Inf:=if s.e=0 then { s with e:=e} else s
def aC (bs:List Nat) (n:Nat) (s:Inf):Nat×Inf:=
 if s.e≠0 then (0,s) else if s.p+n<=8 * bs.length then (dS bs s.p n,{ s with p:=s.p+n}) else (0,{ s with e:=3})
def dF (bs:List Nat) (zs:List Int) (s:Inf):Int×Inf:=
 if s.e≠0 then (0,s) else ((dL zs bs s.p 15 0).1,{ s with p:=(dL zs bs s.p 15 0).2.2,e:=(dL zs bs s.p 15 0).2.1})
def aV (most:Int) (n:Int) (s:Inf):Inf:=if most-(s.out.length:Int)<n then aN 5 s else s
def uM (bs:List Nat):Nat->Inf->Inf
 |0,s=>s
 |k+1,s=>if (aC bs 8 s).2.e≠0 then (aC bs 8 s).2 else uM bs k { (aC bs 8 s).2 with out:=(aC bs 8 s).2.out++[(aC bs 8 s).1]}
def JY (bs:List Nat) (most:Int) (n m:Nat) (s3:Inf):Inf:=
 let s4:=if s3.e=0/\n≠65535-m then aN 4 s3 else s3
 if s4.e≠0 then s4 else
 let s5:=aV most n s4
 if s5.e≠0 then s5 else uM bs n s5
def VD (bs:List Nat) (most:Int) (s:Inf):Inf:=
 JY bs most (aC bs 16 { s with p:=(s.p+7) / 8 * 8}).1 (aC bs 16 (aC bs 16 { s with p:=(s.p+7) / 8 * 8}).2).1 (aC bs 16 (aC bs 16 { s with p:=(s.p+7) / 8 * 8}).2).2
def b_ (bs:List Nat) (k:Nat) (s:Inf):Nat×Inf:=
 if k<8 then (k+3,s) else if k=28 then (258,s) else (3+(4+k % 4) * 2 ^ (k / 4-1)+(aC bs (k / 4-1) s).1,(aC bs (k / 4-1) s).2)
def fP (bs:List Nat) (k:Nat) (s:Inf):Nat×Inf:=
 if k<2 then (k+1,s) else (1+(2+k % 2) * 2 ^ (k / 2-1)+(aC bs (k / 2-1) s).1,(aC bs (k / 2-1) s).2)
def iL:Nat->Nat->List Nat->List Nat
 |0,_,l=>l
 |n+1,d,l=>iL n d (l++[l.getD (l.length-d) 0])
def VI (bs:List Nat) (most:Int) (n:Nat) (d:Int) (s3:Inf):Bool×Inf:=
 let s4:=if s3.e=0/\29<d then aN 4 s3 else s3
 let dd:=if s4.e=0 then (fP bs d.toNat s4).1 else 0
 let s5:=if s4.e=0 then (fP bs d.toNat s4).2 else s4
 let s6:=if s5.e=0/\s5.out.length<dd then aN 4 s5 else s5
 if s6.e≠0 then (false,s6) else
 if (aV most n s6).e≠0 then (false,aV most n s6) else (true,{ aV most n s6 with out:=iL n dd (aV most n s6).out})
def Fe (bs:List Nat) (most:Int) (zd:List Int) (x:Int) (s1:Inf):Bool×Inf:=
 if s1.e≠0∨x=256 then (false,s1) else
 if x<256 then (true,if (aV most 1 s1).e=0 then { aV most 1 s1 with out:=(aV most 1 s1).out++[x.toNat]} else aV most 1 s1) else
 if 285<x then (false,aN 4 s1) else
 VI bs most (b_ bs (x-257).toNat s1).1 (dF bs zd (b_ bs (x-257).toNat s1).2).1 (dF bs zd (b_ bs (x-257).toNat s1).2).2
def EU (bs:List Nat) (most:Int) (zl zd:List Int) (s:Inf):Bool×Inf:=Fe bs most zd (dF bs zl s).1 (dF bs zl s).2
def bH (bs:List Nat) (most:Int) (zl zd:List Int):Nat->Inf->Inf
 |0,s=>s
 |k+1,s=>if s.e≠0 then s else if (EU bs most zl zd s).1 then bH bs most zl zd k (EU bs most zl zd s).2 else (EU bs most zl zd s).2
def z12:List Int:=(List.range 288).map fun s=>if s<144∨279<s then 8 else if s<256 then 9 else 7
def rU:List Int:=List.replicate 32 5
def fJ:List Nat:=[16,17,18,0,8,7,9,6,10,5,11,4,12,3,13,2,14,1,15]
def eH (bs:List Nat):Nat->Nat->List Int->Inf->List Int×Inf
 |0,_,t,s=>(t,s)
 |k+1,i,t,s=>eH bs k (i+1) (t.set (fJ.getD i 0) ((aC bs 3 s).1:Int)) (aC bs 3 s).2
def bU (bs:List Nat) (l:List Int) (x:Int) (s:Inf):Int×Nat×Inf:=
 if x<16 then (x,1,s) else
 if x=16 then (l.getD (l.length-1) 0,3+(aC bs 2 s).1,(aC bs 2 s).2) else
 if x=17 then (0,3+(aC bs 3 s).1,(aC bs 3 s).2) else (0,11+(aC bs 7 s).1,(aC bs 7 s).2)
def jk (nm:Nat) (l:List Int) (times:Nat) (s:Inf):Inf:=if s.e=0/\nm<l.length+times then aN 4 s else s
def fO (bs:List Nat) (zt:List Int) (nm:Nat):Nat->List Int->Inf->List Int×Inf
 |0,l,s=>(l,s)
 |k+1,l,s=>
  if s.e≠0∨nm<=l.length then (l,s) else
  if (dF bs zt s).2.e≠0 then (l,(dF bs zt s).2) else
  if (dF bs zt s).1=16/\l=[] then (l,aN 4 (dF bs zt s).2) else
  fO bs zt nm k (l++List.replicate (bU bs l (dF bs zt s).1 (dF bs zt s).2).2.1 (bU bs l (dF bs zt s).1 (dF bs zt s).2).1)
   (jk nm l (bU bs l (dF bs zt s).1 (dF bs zt s).2).2.1 (bU bs l (dF bs zt s).1 (dF bs zt s).2).2.2)
def z11 (zs:List Int) (s:Inf):Inf:=if dV zs=0 then s else aN 4 s
def tX (l:List Int) (s:Inf):Inf:=if s.e=0/\l.getD 256 0=0 then aN 4 s else s
def z2g (bs:List Nat) (n m k:Nat) (s3:Inf):(List Int×List Int)×Inf:=
 let s4:=if s3.e=0/\(286<n∨30<m) then aN 4 s3 else s3
 let t:=eH bs k 0 (List.replicate 19 0) s4
 if t.2.e≠0 then (([],[]),t.2) else
 let l:=fO bs t.1 (n+m) (n+m) [] (z11 t.1 t.2)
 if l.2.e≠0 then (([],[]),l.2) else ((l.1.take n,l.1.drop n),tX l.1 l.2)
def aG (bs:List Nat) (s:Inf):(List Int×List Int)×Inf:=
 z2g bs ((aC bs 5 s).1+257) ((aC bs 5 (aC bs 5 s).2).1+1) ((aC bs 4 (aC bs 5 (aC bs 5 s).2).2).1+4) (aC bs 4 (aC bs 5 (aC bs 5 s).2).2).2
def Pz (bs:List Nat) (most:Int) (zl zd:List Int) (s:Inf):Inf:=
 if s.e≠0 then s else
 if (z11 zl s).e≠0 then z11 zl s else bH bs most zl zd (8 * bs.length+1) (z11 zd (z11 zl s))
def g_ (bs:List Nat) (most:Int) (kind:Nat) (s:Inf):Inf:=
 if kind=0 then VD bs most s else
 if kind=1 then Pz bs most z12 rU s else
 if kind=2 then Pz bs most (aG bs s).1.1 (aG bs s).1.2 (aG bs s).2 else aN 4 s
def VA (bs:List Nat) (most:Int) (s:Inf):Inf:=
 if (aC bs 2 (aC bs 1 s).2).2.e≠0 then (aC bs 2 (aC bs 1 s).2).2 else g_ bs most (aC bs 2 (aC bs 1 s).2).1 (aC bs 2 (aC bs 1 s).2).2
def mQ (bs:List Nat) (most:Int):Nat->Inf->Inf
 |0,s=>s
 |k+1,s=>if (VA bs most s).e=0/\(aC bs 1 s).1=0 then mQ bs most k (VA bs most s) else VA bs most s
def rW (bs:List Nat) (most:Int):List Nat×Nat×Int:=
 if most<0∨65536<most then ([],0,1) else
 let s:=mQ bs most (8 * bs.length+1) ⟨0,[],0⟩
 if s.e≠0 then ([],0,s.e) else (s.out,(s.p+7) / 8,0)
end Go.Proofs.YtpakjclpjcngmaaGreat
