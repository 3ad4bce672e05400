/- Lemmas for the claim, layer 37. -/
import Derived.Test.YtmbeahbgafkjfaaGreatDoorKd33
set_option maxRecDepth 100000
namespace Go.Proofs.YtmbeahbgafkjfaaGreatDoor
open Go.RowKit
def x0E:Ent:=⟨0,Wq.ntz,Wq.bdz,0,[],Wq.vw0,[]⟩
def u0E:EV:=⟨⟨none,0,0,none,0,0,none,0,0,none,0,0⟩,none,0,none,0,⟨none,0,none,0,none,0,none,0⟩,none,0⟩
theorem VwOwn.nil (w:World) (base:Nat):VwOwn w base ⟨none,0,none,0,none,0,none,0⟩ Wq.vw0 [] []:=⟨World.ownsRow_nil _ _ _ _,OwnZ.nil _ _,rfl,World.ownsRow_nil _ _ _ _,OwnBd.nil _ _,rfl⟩
theorem NtOwn.nil (w:World) (base:Nat):NtOwn w base ⟨none,0,0,none,0,0,none,0,0,none,0,0⟩ Wq.ntz:=⟨rfl,World.ownsRow_nil _ _ _ _,rfl,World.ownsRow_nil _ _ _ _,rfl,World.ownsRow_nil _ _ _ _,rfl,World.ownsRow_nil _ _ _ _⟩
theorem dec_start (w:World) (A:Option Addr) (c:Nat) (l:List UInt8) (hR:Rd w w.heap.size 1 A l.length c (bv l)) (hn:l.length≤4294967296):
  ES w (((w.alloc (.cells entZ 38)).alloc (.cells #[.int .i64 0] 40)).alloc (.cells #[.slice A l.length c] 86)) w.heap.size l u0E x0E [] [] []:=by
 have h1:Below w.heap.size w (w.alloc (.cells entZ 38)):=(Below.refl _ _).alloc (Nat.le_refl _) _
 have h2:Below w.heap.size w ((w.alloc (.cells entZ 38)).alloc (.cells #[.int .i64 0] 40)):=h1.alloc (by simp) _
 have h3:=h2.alloc (by simp;omega) (.cells #[.slice A l.length c] 86)
 have b1:=((Blk.new w 38 entZ).alloc (.cells #[.int .i64 0] 40)).alloc (.cells #[.slice A l.length c] 86)
 have b2:=(Blk.new (w.alloc (.cells entZ 38)) 40 #[.int .i64 0]).alloc (.cells #[.slice A l.length c] 86)
 have b3:=Blk.new ((w.alloc (.cells entZ 38)).alloc (.cells #[.int .i64 0] 40)) 86 #[.slice A l.length c]
 rw[World.size_alloc] at b2
 rw[World.size_alloc,World.size_alloc] at b3
 exact⟨⟨b1,NtOwn.nil _ _,World.ownsRow_nil _ _ _ _,World.ownsRow_nil _ _ _ _,VwOwn.nil _ _,OwnSb.nil _ _,rfl⟩,b2,⟨⟨A,c,b3,hR.below h3⟩,by omega,hn⟩,h3,rfl⟩
theorem run_build_sub (w:World) (f:Int) (A:Option Addr) (n c:Nat):
  (Instr.build 65 #[(0,.int .i64 f),(1,.slice A n c)]).run Tryz.prog w=.ok (.agg #[.int .i64 f,.slice A n c,.int .i64 0,.int .i64 0,.bool false,.bool false,.bool false]) w:=by kernel_rfl
theorem run_row_sub (w:World) (f:Int) (A:Option Addr) (n c:Nat):
  (Instr.buildSlice 36 1 #[(0,.agg #[.int .i64 f,.slice A n c,.int .i64 0,.int .i64 0,.bool false,.bool false,.bool false])]).run Tryz.prog w=.ok (.slice (some ⟨w.heap.size,0,none⟩) 1 1) (w.alloc (.cells #[.int .i64 f,.slice A n c,.int .i64 0,.int .i64 0,.bool false,.bool false,.bool false] 65)):=by kernel_rfl
theorem run_op_sub {o:Oper} {a:Act} {w:World} {x y:Operand} {f:Int} {A:Option Addr} {n c:Nat} (ho:o.op=.build 65 #[(0,x),(1,y)]) (hx:a.eval x=.int .i64 f) (hy:a.eval y=.slice A n c):
  (execOp a.eval o).run Tryz.prog w=.ok (.value (.agg #[.int .i64 f,.slice A n c,.int .i64 0,.int .i64 0,.bool false,.bool false,.bool false])) w:=by
 unfold execOp
 simp only[ho,List.map_toArray,List.map_cons,List.map_nil,hx,hy,Sem.run_bind,run_build_sub,Result.andThen_ok,Sem.run_pure]
theorem wp_op_sub {o:Oper} {a:Act} {w:World} {K:Act→World→Prop} {Q:Exit→Act→World→Prop} {x:Operand} {f:Int} {A:Option Addr} {n c:Nat} (ho:o.op=.buildSlice 36 1 #[(0,x)]) (hx:a.eval x=.agg #[.int .i64 f,.slice A n c,.int .i64 0,.int .i64 0,.bool false,.bool false,.bool false])
  (h:K (a.put o.dst (.slice (some ⟨w.heap.size,0,none⟩) 1 1)) (w.alloc (.cells #[.int .i64 f,.slice A n c,.int .i64 0,.int .i64 0,.bool false,.bool false,.bool false] 65))):o.wp Tryz.prog a w K Q:=by
 unfold Oper.wp execOp
 simp only[ho,List.map_toArray,List.map_cons,List.map_nil,hx,Sem.run_bind,run_row_sub,Result.andThen_ok,Sem.run_pure]
 exact h
theorem wpList_load_rowg {P:Program} {ops:Array Oper} {rest:List Oper} {o:Oper} {a:Act} {w:World} {Q:Exit→Act→World→Prop} (hw:Region.wanted o (yielded ops a.tmps)=true) (ty:TypeId) (x:Operand) (ho:o.op=.load ty x)
  (g:Nat) (hx:a.eval x=.pointer (some ⟨g,0,none⟩)) (t:TypeId) (cs:Array Value) (d:TypeDesc) (hg:Blk w g t cs)
  (hu:P.underlying ty=some d) (hd:(match d with | .struct _ | .array _ _=>true | _=>false)=true) (hi:(P.info? ty).map (·.size)=some cs.size)
  (h:wpList P ops Q rest (a.put o.dst (.agg cs)) w):wpList P ops Q (o :: rest) a w:=
 wpList_step fun K hK=>by
  rw[if_pos hw]
  exact wp_load_row ty x ho g hx t cs (0,0) d hg hu hd hi (hK _ _ h)
end Go.Proofs.YtmbeahbgafkjfaaGreatDoor
