/- Worlds that grow. Regions that draw their order: each operation of a head leaves what was there alone and either has one value, whenever it runs, or makes one new block; a tail in one forced order follows. One walk in the order of the text serves. Regions that draw their order: one walk in the order of the text serves, where each operation of a head reads, calls, makes a block, or turns a map that an earlier operation of the head made. A map that the call has made, as a function of its keys. Rows of our own: reading, growing, sorting. Terms: sizes, levels, errors, order. Terms in memory. Terms: errors, budgets, sums. Regions that draw their order: one walk in the order of the text serves, where each operation of a head reads, calls, makes a block, or turns a map that an earlier operation of the head made. -/
import Derived.WalkKit
import Derived.Below
import Derived.Lib.Hide
import Derived.IntWalk
import Derived.StillTail
import Derived.ChangeMaps4
import Derived.Maps.OwnSet
import Derived.Maps.AppendAt
import Derived.DeepKeys4
import Derived.Shelf.SlSortCmp.InsertionK
import Derived.Laws.AppendOwn
set_option maxRecDepth 100000
set_option maxHeartbeats 8000000
namespace Go.Proofs.YtclijngnoepbiaaGreat
open Go.RowKit

theorem rb {a b:Bool} (h:a=b):Ending.returned (.bool a)=Ending.returned (.bool b):=by rw [h]
theorem ri {k:IntKind} {a b:Int} (h:a=b):Ending.returned (.int k a)=Ending.returned (.int k b):=by rw [h]

/-- nothing that was there has changed -/
def Ext (w w':World):Prop:=Below w.heap.size w w'
theorem Ext.refl (w:World):Ext w w:=Below.refl _ _
theorem Ext.size {w w':World} (h:Ext w w'):w.heap.size≤w'.heap.size:=Below.size h
theorem Ext.trans {a b c:World} (h:Ext a b) (k:Ext b c):Ext a c:=Below.trans h (Below.mono k h.size)
theorem Ext.alloc (w:World) (o:Obj):Ext w (w.alloc o):=(Below.refl _ _).alloc (Nat.le_refl _) o
theorem Ext.drew (w:World):Ext w w.drew:=(Below.refl _ _).drew
theorem Ext.al {w w':World} {o:Obj} (h:Ext (w.alloc o) w'):Ext w w':=(Ext.alloc w o).trans h
theorem Ext.dr {w w':World} (h:Ext w.drew w'):Ext w w':=(Ext.drew w).trans h
theorem Ext.then_al {w w':World} (h:Ext w w') (o:Obj):Ext w (w'.alloc o):=h.trans (Ext.alloc w' o)
theorem Ext.then_dr {w w':World} (h:Ext w w'):Ext w w'.drew:=h.trans (Ext.drew w')
theorem Ext.below {w w':World} (h:Ext w w') {B:Nat} (hB:B≤w.heap.size):Below B w w':=Below.mono h hB
theorem Ext.cell {w w':World} (h:Ext w w') {b o:Nat} (hb:b<w.heap.size):w'.cell? ⟨b,o,none⟩=w.cell? ⟨b,o,none⟩:=Below.cell h hb
theorem Ext.block {w w':World} (h:Ext w w') {b:Nat} (hb:b<w.heap.size):w'.heap[b]?=w.heap[b]?:=Below.block h b hb

theorem Ext.cells {w w':World} (h:Ext w w'):(∀b o,b<w.heap.size→w'.cell? ⟨b,o,none⟩=w.cell? ⟨b,o,none⟩)∧(∀b o,b<w.heap.size→w'.frozen? ⟨b,o,none⟩=w.frozen? ⟨b,o,none⟩) :=
 ⟨fun b o hb=>Below.cell (p:=⟨b,o,none⟩) h hb,fun b o hb=>Below.frozen (p:=⟨b,o,none⟩) h hb⟩
theorem cs_ext {w w':World} {p:Addr} {v:Value} (h:Ext w w') (hc:w.cell? p=some v):w'.cell? p=some v :=
 (Below.cell h (World.block_lt_of_cell? w p hc)).trans hc
theorem cs_e2 {w w':World} {p0 p1:Addr} {v0 v1:Value} (h:Ext w w') (H:w.cell? p0=some v0∧w.cell? p1=some v1):w'.cell? p0=some v0∧w'.cell? p1=some v1:=⟨cs_ext h H.1,cs_ext h H.2⟩
theorem cs_e3 {w w':World} {p0 p1 p2:Addr} {v0 v1 v2:Value} (h:Ext w w') (H:w.cell? p0=some v0∧w.cell? p1=some v1∧w.cell? p2=some v2):w'.cell? p0=some v0∧w'.cell? p1=some v1∧w'.cell? p2=some v2:=⟨cs_ext h H.1,cs_e2 h H.2⟩
theorem cs_e4 {w w':World} {p0 p1 p2 p3:Addr} {v0 v1 v2 v3:Value} (h:Ext w w') (H:w.cell? p0=some v0∧w.cell? p1=some v1∧w.cell? p2=some v2∧w.cell? p3=some v3):w'.cell? p0=some v0∧w'.cell? p1=some v1∧w'.cell? p2=some v2∧w'.cell? p3=some v3:=⟨cs_ext h H.1,cs_e3 h H.2⟩
theorem cs_e5 {w w':World} {p0 p1 p2 p3 p4:Addr} {v0 v1 v2 v3 v4:Value} (h:Ext w w') (H:w.cell? p0=some v0∧w.cell? p1=some v1∧w.cell? p2=some v2∧w.cell? p3=some v3∧w.cell? p4=some v4):w'.cell? p0=some v0∧w'.cell? p1=some v1∧w'.cell? p2=some v2∧w'.cell? p3=some v3∧w'.cell? p4=some v4:=⟨cs_ext h H.1,cs_e4 h H.2⟩
theorem cs_e6 {w w':World} {p0 p1 p2 p3 p4 p5:Addr} {v0 v1 v2 v3 v4 v5:Value} (h:Ext w w') (H:w.cell? p0=some v0∧w.cell? p1=some v1∧w.cell? p2=some v2∧w.cell? p3=some v3∧w.cell? p4=some v4∧w.cell? p5=some v5):w'.cell? p0=some v0∧w'.cell? p1=some v1∧w'.cell? p2=some v2∧w'.cell? p3=some v3∧w'.cell? p4=some v4∧w'.cell? p5=some v5:=⟨cs_ext h H.1,cs_e5 h H.2⟩
theorem cs_e7 {w w':World} {p0 p1 p2 p3 p4 p5 p6:Addr} {v0 v1 v2 v3 v4 v5 v6:Value} (h:Ext w w') (H:w.cell? p0=some v0∧w.cell? p1=some v1∧w.cell? p2=some v2∧w.cell? p3=some v3∧w.cell? p4=some v4∧w.cell? p5=some v5∧w.cell? p6=some v6):w'.cell? p0=some v0∧w'.cell? p1=some v1∧w'.cell? p2=some v2∧w'.cell? p3=some v3∧w'.cell? p4=some v4∧w'.cell? p5=some v5∧w'.cell? p6=some v6:=⟨cs_ext h H.1,cs_e6 h H.2⟩
theorem cs_e8 {w w':World} {p0 p1 p2 p3 p4 p5 p6 p7:Addr} {v0 v1 v2 v3 v4 v5 v6 v7:Value} (h:Ext w w') (H:w.cell? p0=some v0∧w.cell? p1=some v1∧w.cell? p2=some v2∧w.cell? p3=some v3∧w.cell? p4=some v4∧w.cell? p5=some v5∧w.cell? p6=some v6∧w.cell? p7=some v7):w'.cell? p0=some v0∧w'.cell? p1=some v1∧w'.cell? p2=some v2∧w'.cell? p3=some v3∧w'.cell? p4=some v4∧w'.cell? p5=some v5∧w'.cell? p6=some v6∧w'.cell? p7=some v7:=⟨cs_ext h H.1,cs_e7 h H.2⟩
theorem cs_e9 {w w':World} {p0 p1 p2 p3 p4 p5 p6 p7 p8:Addr} {v0 v1 v2 v3 v4 v5 v6 v7 v8:Value} (h:Ext w w') (H:w.cell? p0=some v0∧w.cell? p1=some v1∧w.cell? p2=some v2∧w.cell? p3=some v3∧w.cell? p4=some v4∧w.cell? p5=some v5∧w.cell? p6=some v6∧w.cell? p7=some v7∧w.cell? p8=some v8):w'.cell? p0=some v0∧w'.cell? p1=some v1∧w'.cell? p2=some v2∧w'.cell? p3=some v3∧w'.cell? p4=some v4∧w'.cell? p5=some v5∧w'.cell? p6=some v6∧w'.cell? p7=some v7∧w'.cell? p8=some v8:=⟨cs_ext h H.1,cs_e8 h H.2⟩
theorem cs_e10 {w w':World} {p0 p1 p2 p3 p4 p5 p6 p7 p8 p9:Addr} {v0 v1 v2 v3 v4 v5 v6 v7 v8 v9:Value} (h:Ext w w') (H:w.cell? p0=some v0∧w.cell? p1=some v1∧w.cell? p2=some v2∧w.cell? p3=some v3∧w.cell? p4=some v4∧w.cell? p5=some v5∧w.cell? p6=some v6∧w.cell? p7=some v7∧w.cell? p8=some v8∧w.cell? p9=some v9):w'.cell? p0=some v0∧w'.cell? p1=some v1∧w'.cell? p2=some v2∧w'.cell? p3=some v3∧w'.cell? p4=some v4∧w'.cell? p5=some v5∧w'.cell? p6=some v6∧w'.cell? p7=some v7∧w'.cell? p8=some v8∧w'.cell? p9=some v9:=⟨cs_ext h H.1,cs_e9 h H.2⟩
theorem cs_e11 {w w':World} {p0 p1 p2 p3 p4 p5 p6 p7 p8 p9 p10:Addr} {v0 v1 v2 v3 v4 v5 v6 v7 v8 v9 v10:Value} (h:Ext w w') (H:w.cell? p0=some v0∧w.cell? p1=some v1∧w.cell? p2=some v2∧w.cell? p3=some v3∧w.cell? p4=some v4∧w.cell? p5=some v5∧w.cell? p6=some v6∧w.cell? p7=some v7∧w.cell? p8=some v8∧w.cell? p9=some v9∧w.cell? p10=some v10):w'.cell? p0=some v0∧w'.cell? p1=some v1∧w'.cell? p2=some v2∧w'.cell? p3=some v3∧w'.cell? p4=some v4∧w'.cell? p5=some v5∧w'.cell? p6=some v6∧w'.cell? p7=some v7∧w'.cell? p8=some v8∧w'.cell? p9=some v9∧w'.cell? p10=some v10:=⟨cs_ext h H.1,cs_e10 h H.2⟩
theorem cs_e12 {w w':World} {p0 p1 p2 p3 p4 p5 p6 p7 p8 p9 p10 p11:Addr} {v0 v1 v2 v3 v4 v5 v6 v7 v8 v9 v10 v11:Value} (h:Ext w w') (H:w.cell? p0=some v0∧w.cell? p1=some v1∧w.cell? p2=some v2∧w.cell? p3=some v3∧w.cell? p4=some v4∧w.cell? p5=some v5∧w.cell? p6=some v6∧w.cell? p7=some v7∧w.cell? p8=some v8∧w.cell? p9=some v9∧w.cell? p10=some v10∧w.cell? p11=some v11):w'.cell? p0=some v0∧w'.cell? p1=some v1∧w'.cell? p2=some v2∧w'.cell? p3=some v3∧w'.cell? p4=some v4∧w'.cell? p5=some v5∧w'.cell? p6=some v6∧w'.cell? p7=some v7∧w'.cell? p8=some v8∧w'.cell? p9=some v9∧w'.cell? p10=some v10∧w'.cell? p11=some v11:=⟨cs_ext h H.1,cs_e11 h H.2⟩
theorem cs_e13 {w w':World} {p0 p1 p2 p3 p4 p5 p6 p7 p8 p9 p10 p11 p12:Addr} {v0 v1 v2 v3 v4 v5 v6 v7 v8 v9 v10 v11 v12:Value} (h:Ext w w') (H:w.cell? p0=some v0∧w.cell? p1=some v1∧w.cell? p2=some v2∧w.cell? p3=some v3∧w.cell? p4=some v4∧w.cell? p5=some v5∧w.cell? p6=some v6∧w.cell? p7=some v7∧w.cell? p8=some v8∧w.cell? p9=some v9∧w.cell? p10=some v10∧w.cell? p11=some v11∧w.cell? p12=some v12):w'.cell? p0=some v0∧w'.cell? p1=some v1∧w'.cell? p2=some v2∧w'.cell? p3=some v3∧w'.cell? p4=some v4∧w'.cell? p5=some v5∧w'.cell? p6=some v6∧w'.cell? p7=some v7∧w'.cell? p8=some v8∧w'.cell? p9=some v9∧w'.cell? p10=some v10∧w'.cell? p11=some v11∧w'.cell? p12=some v12:=⟨cs_ext h H.1,cs_e12 h H.2⟩
theorem cs_e14 {w w':World} {p0 p1 p2 p3 p4 p5 p6 p7 p8 p9 p10 p11 p12 p13:Addr} {v0 v1 v2 v3 v4 v5 v6 v7 v8 v9 v10 v11 v12 v13:Value} (h:Ext w w') (H:w.cell? p0=some v0∧w.cell? p1=some v1∧w.cell? p2=some v2∧w.cell? p3=some v3∧w.cell? p4=some v4∧w.cell? p5=some v5∧w.cell? p6=some v6∧w.cell? p7=some v7∧w.cell? p8=some v8∧w.cell? p9=some v9∧w.cell? p10=some v10∧w.cell? p11=some v11∧w.cell? p12=some v12∧w.cell? p13=some v13):w'.cell? p0=some v0∧w'.cell? p1=some v1∧w'.cell? p2=some v2∧w'.cell? p3=some v3∧w'.cell? p4=some v4∧w'.cell? p5=some v5∧w'.cell? p6=some v6∧w'.cell? p7=some v7∧w'.cell? p8=some v8∧w'.cell? p9=some v9∧w'.cell? p10=some v10∧w'.cell? p11=some v11∧w'.cell? p12=some v12∧w'.cell? p13=some v13:=⟨cs_ext h H.1,cs_e13 h H.2⟩
theorem cs_e15 {w w':World} {p0 p1 p2 p3 p4 p5 p6 p7 p8 p9 p10 p11 p12 p13 p14:Addr} {v0 v1 v2 v3 v4 v5 v6 v7 v8 v9 v10 v11 v12 v13 v14:Value} (h:Ext w w') (H:w.cell? p0=some v0∧w.cell? p1=some v1∧w.cell? p2=some v2∧w.cell? p3=some v3∧w.cell? p4=some v4∧w.cell? p5=some v5∧w.cell? p6=some v6∧w.cell? p7=some v7∧w.cell? p8=some v8∧w.cell? p9=some v9∧w.cell? p10=some v10∧w.cell? p11=some v11∧w.cell? p12=some v12∧w.cell? p13=some v13∧w.cell? p14=some v14):w'.cell? p0=some v0∧w'.cell? p1=some v1∧w'.cell? p2=some v2∧w'.cell? p3=some v3∧w'.cell? p4=some v4∧w'.cell? p5=some v5∧w'.cell? p6=some v6∧w'.cell? p7=some v7∧w'.cell? p8=some v8∧w'.cell? p9=some v9∧w'.cell? p10=some v10∧w'.cell? p11=some v11∧w'.cell? p12=some v12∧w'.cell? p13=some v13∧w'.cell? p14=some v14:=⟨cs_ext h H.1,cs_e14 h H.2⟩
theorem cs_e16 {w w':World} {p0 p1 p2 p3 p4 p5 p6 p7 p8 p9 p10 p11 p12 p13 p14 p15:Addr} {v0 v1 v2 v3 v4 v5 v6 v7 v8 v9 v10 v11 v12 v13 v14 v15:Value} (h:Ext w w') (H:w.cell? p0=some v0∧w.cell? p1=some v1∧w.cell? p2=some v2∧w.cell? p3=some v3∧w.cell? p4=some v4∧w.cell? p5=some v5∧w.cell? p6=some v6∧w.cell? p7=some v7∧w.cell? p8=some v8∧w.cell? p9=some v9∧w.cell? p10=some v10∧w.cell? p11=some v11∧w.cell? p12=some v12∧w.cell? p13=some v13∧w.cell? p14=some v14∧w.cell? p15=some v15):w'.cell? p0=some v0∧w'.cell? p1=some v1∧w'.cell? p2=some v2∧w'.cell? p3=some v3∧w'.cell? p4=some v4∧w'.cell? p5=some v5∧w'.cell? p6=some v6∧w'.cell? p7=some v7∧w'.cell? p8=some v8∧w'.cell? p9=some v9∧w'.cell? p10=some v10∧w'.cell? p11=some v11∧w'.cell? p12=some v12∧w'.cell? p13=some v13∧w'.cell? p14=some v14∧w'.cell? p15=some v15:=⟨cs_ext h H.1,cs_e15 h H.2⟩
theorem cs_e17 {w w':World} {p0 p1 p2 p3 p4 p5 p6 p7 p8 p9 p10 p11 p12 p13 p14 p15 p16:Addr} {v0 v1 v2 v3 v4 v5 v6 v7 v8 v9 v10 v11 v12 v13 v14 v15 v16:Value} (h:Ext w w') (H:w.cell? p0=some v0∧w.cell? p1=some v1∧w.cell? p2=some v2∧w.cell? p3=some v3∧w.cell? p4=some v4∧w.cell? p5=some v5∧w.cell? p6=some v6∧w.cell? p7=some v7∧w.cell? p8=some v8∧w.cell? p9=some v9∧w.cell? p10=some v10∧w.cell? p11=some v11∧w.cell? p12=some v12∧w.cell? p13=some v13∧w.cell? p14=some v14∧w.cell? p15=some v15∧w.cell? p16=some v16):w'.cell? p0=some v0∧w'.cell? p1=some v1∧w'.cell? p2=some v2∧w'.cell? p3=some v3∧w'.cell? p4=some v4∧w'.cell? p5=some v5∧w'.cell? p6=some v6∧w'.cell? p7=some v7∧w'.cell? p8=some v8∧w'.cell? p9=some v9∧w'.cell? p10=some v10∧w'.cell? p11=some v11∧w'.cell? p12=some v12∧w'.cell? p13=some v13∧w'.cell? p14=some v14∧w'.cell? p15=some v15∧w'.cell? p16=some v16:=⟨cs_ext h H.1,cs_e16 h H.2⟩
theorem cs_e18 {w w':World} {p0 p1 p2 p3 p4 p5 p6 p7 p8 p9 p10 p11 p12 p13 p14 p15 p16 p17:Addr} {v0 v1 v2 v3 v4 v5 v6 v7 v8 v9 v10 v11 v12 v13 v14 v15 v16 v17:Value} (h:Ext w w') (H:w.cell? p0=some v0∧w.cell? p1=some v1∧w.cell? p2=some v2∧w.cell? p3=some v3∧w.cell? p4=some v4∧w.cell? p5=some v5∧w.cell? p6=some v6∧w.cell? p7=some v7∧w.cell? p8=some v8∧w.cell? p9=some v9∧w.cell? p10=some v10∧w.cell? p11=some v11∧w.cell? p12=some v12∧w.cell? p13=some v13∧w.cell? p14=some v14∧w.cell? p15=some v15∧w.cell? p16=some v16∧w.cell? p17=some v17):w'.cell? p0=some v0∧w'.cell? p1=some v1∧w'.cell? p2=some v2∧w'.cell? p3=some v3∧w'.cell? p4=some v4∧w'.cell? p5=some v5∧w'.cell? p6=some v6∧w'.cell? p7=some v7∧w'.cell? p8=some v8∧w'.cell? p9=some v9∧w'.cell? p10=some v10∧w'.cell? p11=some v11∧w'.cell? p12=some v12∧w'.cell? p13=some v13∧w'.cell? p14=some v14∧w'.cell? p15=some v15∧w'.cell? p16=some v16∧w'.cell? p17=some v17:=⟨cs_ext h H.1,cs_e17 h H.2⟩
theorem cs_e19 {w w':World} {p0 p1 p2 p3 p4 p5 p6 p7 p8 p9 p10 p11 p12 p13 p14 p15 p16 p17 p18:Addr} {v0 v1 v2 v3 v4 v5 v6 v7 v8 v9 v10 v11 v12 v13 v14 v15 v16 v17 v18:Value} (h:Ext w w') (H:w.cell? p0=some v0∧w.cell? p1=some v1∧w.cell? p2=some v2∧w.cell? p3=some v3∧w.cell? p4=some v4∧w.cell? p5=some v5∧w.cell? p6=some v6∧w.cell? p7=some v7∧w.cell? p8=some v8∧w.cell? p9=some v9∧w.cell? p10=some v10∧w.cell? p11=some v11∧w.cell? p12=some v12∧w.cell? p13=some v13∧w.cell? p14=some v14∧w.cell? p15=some v15∧w.cell? p16=some v16∧w.cell? p17=some v17∧w.cell? p18=some v18):w'.cell? p0=some v0∧w'.cell? p1=some v1∧w'.cell? p2=some v2∧w'.cell? p3=some v3∧w'.cell? p4=some v4∧w'.cell? p5=some v5∧w'.cell? p6=some v6∧w'.cell? p7=some v7∧w'.cell? p8=some v8∧w'.cell? p9=some v9∧w'.cell? p10=some v10∧w'.cell? p11=some v11∧w'.cell? p12=some v12∧w'.cell? p13=some v13∧w'.cell? p14=some v14∧w'.cell? p15=some v15∧w'.cell? p16=some v16∧w'.cell? p17=some v17∧w'.cell? p18=some v18:=⟨cs_ext h H.1,cs_e18 h H.2⟩
theorem cs_e20 {w w':World} {p0 p1 p2 p3 p4 p5 p6 p7 p8 p9 p10 p11 p12 p13 p14 p15 p16 p17 p18 p19:Addr} {v0 v1 v2 v3 v4 v5 v6 v7 v8 v9 v10 v11 v12 v13 v14 v15 v16 v17 v18 v19:Value} (h:Ext w w') (H:w.cell? p0=some v0∧w.cell? p1=some v1∧w.cell? p2=some v2∧w.cell? p3=some v3∧w.cell? p4=some v4∧w.cell? p5=some v5∧w.cell? p6=some v6∧w.cell? p7=some v7∧w.cell? p8=some v8∧w.cell? p9=some v9∧w.cell? p10=some v10∧w.cell? p11=some v11∧w.cell? p12=some v12∧w.cell? p13=some v13∧w.cell? p14=some v14∧w.cell? p15=some v15∧w.cell? p16=some v16∧w.cell? p17=some v17∧w.cell? p18=some v18∧w.cell? p19=some v19):w'.cell? p0=some v0∧w'.cell? p1=some v1∧w'.cell? p2=some v2∧w'.cell? p3=some v3∧w'.cell? p4=some v4∧w'.cell? p5=some v5∧w'.cell? p6=some v6∧w'.cell? p7=some v7∧w'.cell? p8=some v8∧w'.cell? p9=some v9∧w'.cell? p10=some v10∧w'.cell? p11=some v11∧w'.cell? p12=some v12∧w'.cell? p13=some v13∧w'.cell? p14=some v14∧w'.cell? p15=some v15∧w'.cell? p16=some v16∧w'.cell? p17=some v17∧w'.cell? p18=some v18∧w'.cell? p19=some v19:=⟨cs_ext h H.1,cs_e19 h H.2⟩
theorem cs_al {w:World} {o:Obj} {p:Addr} {v:Value} (hc:w.cell? p=some v):(w.alloc o).cell? p=some v:=cs_ext (Ext.alloc w o) hc
theorem cs_new {w:World} {cs:Array Value} {T i:Nat} {v:Value} (h:cs[i]?=some v):(w.alloc (.cells cs T)).cell? ⟨w.heap.size,i,none⟩=some v:=by
 rw [World.cell?_alloc_new];exact h
theorem hs_ext {w w':World} {b:Nat} {v:Obj} (h:Ext w w') (hc:w.heap[b]?=some v):w'.heap[b]?=some v :=
 (h.block (Array.getElem?_eq_some_iff.1 hc).1).trans hc
theorem hs_al {w:World} {o:Obj} {b:Nat} {v:Obj} (hc:w.heap[b]?=some v):(w.alloc o).heap[b]?=some v:=hs_ext (Ext.alloc w o) hc
theorem hs_new {w:World} {o:Obj}:(w.alloc o).heap[w.heap.size]?=some o:=heap_alloc_new w o

theorem Ext.setRow {w w':World} (h:Ext w w') {g:Nat} (hg:w.heap.size≤g) (cs:Array Value):Ext w (w'.setRow g cs) :=
 ⟨h.os,h.tape,h.output,by simpa using h.size,fun k hk=>by rw [setRow_other _ _ _ _ (by omega)];exact Below.block h k hk⟩
theorem box4r {w:World} {g T:Nat} {a b c d:Value} (h:w.heap[g]?=some (.cells #[a,b,c,d] T)):w.cell? ⟨g,0,none⟩=some a∧w.cell? ⟨g,1,none⟩=some b∧w.cell? ⟨g,2,none⟩=some c∧w.cell? ⟨g,3,none⟩=some d:=by
 refine ⟨?_,?_,?_,?_⟩<;>simp [World.cell?,h]
/-- a new box, with its names -/
theorem box_new (w:World) (o:Obj):∃(b:Nat) (w1:World),b=w.heap.size∧w1=w.alloc o∧Hid (w1.heap[b]?=some o)∧Ext w w1:=⟨_,_,rfl,rfl,Lib.hid hs_new,Ext.alloc w o⟩

theorem wpList_store_all {P:Program} {ops:Array Oper} {rest:List Oper} {o:Oper} {a:Act} {w:World} {Q:Exit→Act→World→Prop} (hgd:o.guard=none) (ty:TypeId) (x y:Operand) (ho:o.op=.store ty x y)
 (g:Nat) (cells:Array Value) (hx:a.eval x=.pointer (some ⟨g,0,none⟩)) (hy:a.eval y=.agg cells)
 (t:TypeId) (old:Array Value) (hg:w.heap[g]?=some (.cells old t (0,0))) (hi:(P.info? ty).map (·.size)=some cells.size)
 (hold:old.size=cells.size) (h1:cells.all (·.oneCell')=true)
 (h:wpList P ops Q rest (a.put o.dst undef) (w.setRow g cells)):wpList P ops Q (o :: rest) a w :=
 wpList_plain hgd fun _ hK=>wp_store_row ty x y ho g cells hx hy t old hg hi hold h1 (hK _ _ h)

def I64 (x:Int):Prop:=-9223372036854775808≤x∧x≤9223372036854775807
theorem ne_nil_of_get {α:Type} {l:List α} {i:Nat} {x:α} (h:l[i]?=some x):l≠[]:=by
 intro e;subst e;simp at h
end Go.Proofs.YtclijngnoepbiaaGreat

namespace Go.Proofs.YtclijngnoepbiaaGreat
open Go Go.RowKit
set_option linter.unusedVariables false

/-- in every world of S the operation has the value v, and changes nothing that was there -/
def calmUpon (P:Program) (w:World) (v:Value):Result Next→Prop
 | .ok (.value u) w'=>w'=w∧u=v
 | .ok .skip w'=>w'=w∧v=undef
 | .ok (.enter f args) w'=>w'=w∧Calls P f args w (fun e w''=>e=.returned v∧Ext w w'')
 | _=>False
def calmOp (P:Program) (o:Oper) (a:Act) (S:World→Prop) (v:Value):Prop:=∀w,S w→calmUpon P w v ((execOp a.eval o).run P w)
/-- in every world of S the operation makes the block ob, and has the value mk of its number -/
def freshOp (P:Program) (o:Oper) (a:Act) (S:World→Prop) (mk:Nat→Value) (ob:Obj):Prop:=∀w,S w→(execOp a.eval o).run P w=.ok (.value (mk w.heap.size)) (w.alloc ob)

section
variable {P : Program} {ops : Array Oper} {S : World → Prop} {Q : ((Nat → Nat) → Act) → List (Nat × Obj) → Prop} {k : Nat} {o : Oper} {rest : List Oper} {A : (Nat → Nat) → Act} {fs : List (Nat × Obj)}

end

/-- what is known of an operation of the head: the value that it puts, and the block that it makes -/
def OkOp (P:Program) (ops:Array Oper) (S:World→Prop) (i:Nat) (o:Oper) (A:(Nat→Nat)→Act) (val:(Nat→Nat)→Value) (ob:Option Obj):Prop :=
 ((∀g,Region.wanted o (yielded ops (A g).tmps)=false)∧(∀g,val g=undef)∧ob=none) ∨
 ((∀g,Region.wanted o (yielded ops (A g).tmps)=true) ∧
   ((∃v,(∀g,val g=v)∧ob=none∧∀g,calmOp P o (A g) S v)∨(∃mk b,(∀g,val g=mk (g i))∧ob=some b∧∀g,freshOp P o (A g) S mk b)))

/-- the frames, from the first one on -/
def frames (l:List Oper) (val:Nat→(Nat→Nat)→Value) (A:(Nat→Nat)→Act):Nat→(Nat→Nat)→Act
 | 0=>A
 | i+1=>fun g=>(frames l val A i g).put ((l[i]?).bind (·.dst)) (val i g)

def headListed (m n:Nat):Array Bool:=((List.range m).map fun i=>decide (i<n)).toArray

def calmB (ops:Array Oper) (n:Nat):Bool :=
 Region.noSelect ops && decide (n≤ops.size) && (decide (n=ops.size) || (Region.sinkB .any ops n && Region.chainB .any ops n)) &&
 Region.seqB .any ops (ops.size-n) n (headListed ops.size n) &&
 (List.range n).all fun i=>match ops[i]? with
   | none=>false
   | some o=>o.after.all (fun e=>!Region.binds .any e || decide (e.on<i)) &&
     (o.looksAt ops).all (fun t=>(List.range n).all fun j=>!(((ops[j]?).bind (·.dst))==some t) || (decide (j<i) && o.after.any (fun e=>Region.binds .any e && e.on==j))) &&
     (List.range i).all (fun j=>o.dst==none || ((ops[j]?).bind (·.dst)) != o.dst)

theorem OkOp.local {P:Program} {ops:Array Oper} {S:World→Prop} {i:Nat} {o:Oper} {A:(Nat→Nat)→Act} {val:(Nat→Nat)→Value} {ob:Option Obj} (h:OkOp P ops S i o A val ob) {g g':Nat→Nat} (e:g i=g' i):val g=val g':=by
 rcases h with ⟨_,h,_⟩ | ⟨_,⟨v,h,_⟩ | ⟨mk,b,h,_⟩⟩
 · rw [h,h]
 · rw [h,h]
 · rw [h,h,e]

theorem get_put (a:Act) (d:Option Tmp) (v:Value) (t:Nat):(a.put d v).tmps[t]?=if d=some t then a.tmps[t]?.map (fun _=>v) else a.tmps[t]?:=by
 cases d with
 | none=>simp [Act.put]
 | some d =>
   by_cases h:d=t
   · subst h
     simp only [Act.put,if_true]
     rcases Nat.lt_or_ge d a.tmps.size with h | h
     · simp [h]
     · simp [h]
   · rw [if_neg (by simpa using h)]
     simp [Act.put,Array.getElem?_setIfInBounds_ne h]

theorem defers_put (a:Act) (d:Option Tmp) (v:Value):(a.put d v).defers=a.defers:=by cases d<;>rfl

theorem frames_other {l:List Oper} {val:Nat→(Nat→Nat)→Value} {a0:Act} {g:Nat→Nat} {t:Nat}:∀{m},(∀i,i<m→(l[i]?).bind (·.dst)≠some t)→(frames l val (fun _=>a0) m g).tmps[t]?=a0.tmps[t]?
 | 0,_=>rfl
 | m+1,h=>by
   simp only [frames,get_put]
   rw [if_neg (h m (by omega))]
   exact frames_other (fun i hi=>h i (by omega))

theorem frames_at {l:List Oper} {val:Nat→(Nat→Nat)→Value} {a0:Act} {g:Nat→Nat} {t i:Nat} (hi:(l[i]?).bind (·.dst)=some t):∀{m},i<m→(∀j,j<m→j≠i→(l[j]?).bind (·.dst)≠some t)→(frames l val (fun _=>a0) m g).tmps[t]?=a0.tmps[t]?.map (fun _=>val i g)
 | 0,h,_=>by omega
 | m + 1,h,hd=>by
   simp only [frames,get_put]
   by_cases hm:m=i
   · subst hm
     rw [if_pos hi,frames_other (fun j hj=>hd j (by omega) (by omega))]
   · rw [if_neg (hd m (by omega) hm)]
     exact frames_at hi (by omega) (fun j hj=>hd j (by omega))

theorem execOp_same {ops:Array Oper} (o:Oper) (hs:∀cs b,o.op≠.select cs b) {a a':Act} (h:∀t,t∈o.looksAt ops→a.tmps[t]?=a'.tmps[t]?):execOp a.eval o=execOp a'.eval o :=
 execOp_congr o hs fun x hx=>by
  cases x with
  | tmp t =>
    have:=h t (List.mem_append_left _ (List.mem_filterMap.2 ⟨.tmp t,by simpa using hx,rfl⟩))
    simp only [Act.eval,Array.getD_eq_getD_getElem?,this]
  | _=>rfl

theorem wanted_same {ops:Array Oper} (o:Oper) {a a':Act} (h:∀t,t∈o.looksAt ops→a.tmps[t]?=a'.tmps[t]?):Region.wanted o (yielded ops a.tmps)=Region.wanted o (yielded ops a'.tmps):=by
 unfold Region.wanted
 cases hg:o.guard with
 | none=>rfl
 | some gw =>
   obtain ⟨g,want⟩:=gw
   have hy:yielded ops a.tmps g=yielded ops a'.tmps g:=by
    unfold yielded
    cases ht:(ops[g]?).bind (·.dst) with
    | none=>rfl
    | some t =>
      have:=h t (by simp [Oper.looksAt,hg,ht])
      simp only [Option.bind_some,this]
   simp only [hy]

structure CalmJ (S:World→Prop) (ops:Array Oper) (n B:Nat) (a0:Act) (val:Nat→(Nat→Nat)→Value) (ob:Nat→Option Obj) (listed:Array Bool) (a:Act) (w:World) (g:Nat→Nat):Prop where
 s:S w
 size:B≤w.heap.size
 defers:a.defers=a0.defers
 at_:∀i,i<n→listed.getD i false=true→∀t,(ops[i]?).bind (·.dst)=some t→a.tmps[t]?=a0.tmps[t]?.map (fun _=>val i g)
 other:∀t,(∀i,i<n→listed.getD i false=true→(ops[i]?).bind (·.dst)≠some t)→a.tmps[t]?=a0.tmps[t]?
 fresh:∀i,i<n→listed.getD i false=true→∀b,ob i=some b→w.heap[g i]?=some b∧B≤g i
 apart:∀i j,i<n→j<n→listed.getD i false=true→listed.getD j false=true→i≠j→(ob i).isSome→(ob j).isSome→g i≠g j

section
variable {P : Program} {S : World → Prop} {ops : Array Oper} {n B : Nat} {a0 : Act} {val : Nat → (Nat → Nat) → Value} {ob : Nat → Option Obj} {listed : Array Bool} {a : Act} {w : World} {g : Nat → Nat}

/-- what the Bool says of an operation of the head -/
structure CalmCond (ops:Array Oper) (n i:Nat) (o:Oper):Prop where
 before:∀e∈o.after,Region.binds .any e=true→e.on<i
 reads:∀t∈o.looksAt ops,∀j,j<n→(ops[j]?).bind (·.dst)=some t→j<i∧∃e∈o.after,Region.binds .any e=true∧e.on=j
 once:∀j,j<i→∀t,o.dst=some t→(ops[j]?).bind (·.dst)≠some t

theorem getD_set_self {listed:Array Bool} {i:Nat} (h:i<listed.size):(listed.setIfInBounds i true).getD i false=true:=by simp [h]

theorem CalmJ.put (J:CalmJ S ops n B a0 val ob listed a w g) {i:Nat} {o:Oper} (hn:i<n) (ho:ops[i]?=some o) (hlt:i<listed.size) (hun:listed.getD i false=false)
 (hc:∀i o,i<n→ops[i]?=some o→CalmCond ops n i o) (hloc:∀j,j<n→∀g g':Nat→Nat,g j=g' j→val j g=val j g') {w':World} {g':Nat→Nat} (hg:∀j,j≠i→g' j=g j) (hS:S w') (he:Ext w w')
 (hf:∀b,ob i=some b→w'.heap[g' i]?=some b∧w.heap.size≤g' i) :
 CalmJ S ops n B a0 val ob (listed.setIfInBounds i true) (a.put o.dst (val i g')) w' g':=by
 have hlist:∀j,j≠i→(listed.setIfInBounds i true).getD j false=listed.getD j false:=fun j h=>getD_set_ne false (Ne.symm h)
 have hdist:∀j,j<n→j≠i→∀t,o.dst=some t→(ops[j]?).bind (·.dst)≠some t:=by
  intro j hj hji t ht hjt
  rcases Nat.lt_or_ge j i with h | h
  · exact (hc i o hn ho).once j h t ht hjt
  · cases hoj:ops[j]? with
    | none=>rw [hoj] at hjt;cases hjt
    | some oj =>
      rw [hoj] at hjt
      exact (hc j oj hj hoj).once i (by omega) t hjt (by rw [ho];exact ht)
 refine ⟨hS,Nat.le_trans J.size he.size,by rw [defers_put];exact J.defers,?_,?_,?_,?_⟩
 · intro j hj hl t ht
   rw [get_put]
   by_cases hji:j=i
   · subst hji
     have hd:o.dst=some t:=by rw [ho] at ht;exact ht
     rw [if_pos hd]
     have:a.tmps[t]?=a0.tmps[t]?:=J.other t (fun k hk hlk hkt=>by
      by_cases hkj:k=j
      · subst hkj;rw [hun] at hlk;cases hlk
      · exact hdist k hk hkj t hd hkt)
     rw [this]
   · rw [if_neg (fun hd=>hdist j hj hji t hd ht),J.at_ j hj (by rw [hlist j hji] at hl;exact hl) t ht,hloc j hj g' g (hg j hji)]
 · intro t ht
   rw [get_put]
   have h1:o.dst≠some t:=fun hd=>ht i hn (getD_set_self hlt) (by rw [ho];exact hd)
   rw [if_neg h1]
   exact J.other t (fun j hj hl=>by
    by_cases hji:j=i
    · subst hji;rw [hun] at hl;cases hl
    · exact ht j hj (by rw [hlist j hji];exact hl))
 · intro j hj hl b hb
   by_cases hji:j=i
   · subst hji
     obtain ⟨h1,h2⟩:=hf b hb
     exact ⟨h1,Nat.le_trans J.size h2⟩
   · rw [hlist j hji] at hl
     obtain ⟨h1,h2⟩:=J.fresh j hj hl b hb
     rw [hg j hji]
     exact ⟨hs_ext he h1,h2⟩
 · intro j k hj hk hlj hlk hjk hoj hok
   have old:∀j,j<n→j≠i→(listed.setIfInBounds i true).getD j false=true→(ob j).isSome→g' j<w.heap.size:=by
    intro j hj hji hl ho
    rw [hlist j hji] at hl
    obtain ⟨b,hb⟩:=Option.isSome_iff_exists.1 ho
    rw [hg j hji]
    exact (Array.getElem?_eq_some_iff.1 (J.fresh j hj hl b hb).1).1
   by_cases hji:j=i
   · subst hji
     obtain ⟨b,hb⟩:=Option.isSome_iff_exists.1 hoj
     have h1:=(hf b hb).2
     have h2:=old k hk (Ne.symm hjk) hlk hok
     omega
   · by_cases hki:k=i
     · subst hki
       obtain ⟨b,hb⟩:=Option.isSome_iff_exists.1 hok
       have h1:=(hf b hb).2
       have h2:=old j hj hji hlj hoj
       omega
     · rw [hg j hji,hg k hki]
       exact J.apart j k hj hk (by rw [hlist j hji] at hlj;exact hlj) (by rw [hlist k hki] at hlk;exact hlk) hjk hoj hok

theorem CalmJ.step {Q:Exit→Act→World→Prop} {l:List Oper} (J:CalmJ S ops n B a0 val ob listed a w g) {i:Nat} {o:Oper} (hn:i<n) (ho:ops[i]?=some o) (hlt:i<listed.size) (hr:i∈Region.ready .any ops listed)
 (hns:n≤ops.size) (hnosel:∀cs b,o.op≠.select cs b) (hl:∀j,j<n→l[j]?=ops[j]?)
 (hSE:∀w w',S w→Ext w w'→S w')
 (hc:∀i o,i<n→ops[i]?=some o→CalmCond ops n i o) (hok:∀j o,j<n→ops[j]?=some o→OkOp P ops S j o (frames l val (fun _=>a0) j) (val j) (ob j))
 {K:Act→World→Prop} (hK:∀a' w' g',CalmJ S ops n B a0 val ob (listed.setIfInBounds i true) a' w' g'→K a' w'):wpOp P ops Q i K a w:=by
 obtain ⟨hun',o',ho',hall⟩:=mem_ready.1 hr
 have:o'=o:=Option.some.inj (ho'.symm.trans ho)
 subst this
 have hun:listed.getD i false=false:=getD_both hun'
 have hloc:∀j,j<n→∀g g':Nat→Nat,g j=g' j→val j g=val j g':=by
  intro j hj g g' e
  rcases Nat.lt_or_ge j ops.size with h | h
  · exact (hok j ops[j] hj (by simp [h])).local e
  · omega
 have hsame:∀t,t∈o'.looksAt ops→a.tmps[t]?=(frames l val (fun _=>a0) i g).tmps[t]?:=by
  intro t ht
  by_cases hex:∃j,j<n∧(ops[j]?).bind (·.dst)=some t
  · obtain ⟨j,hj,hjt⟩:=hex
    obtain ⟨hji,e,he,hb,hon⟩:=(hc i o' hn ho).reads t ht j hj hjt
    have hlj:=hall e he hb
    rw [hon] at hlj
    rw [J.at_ j hj hlj t hjt,frames_at (by rw [hl j hj];exact hjt) hji (fun k hk hkj=>?_)]
    rw [hl k (by omega)]
    intro hkt
    rcases Nat.lt_or_ge k j with h | h
    · cases hoj:ops[j]? with
      | none=>rw [hoj] at hjt;cases hjt
      | some oj=>rw [hoj] at hjt;exact (hc j oj hj hoj).once k h t hjt hkt
    · cases hok':ops[k]? with
      | none=>rw [hok'] at hkt;cases hkt
      | some ok=>rw [hok'] at hkt;exact (hc k ok (by omega) hok').once j (by omega) t hkt hjt
  · rw [J.other t (fun j hj _ hjt=>hex ⟨j,hj,hjt⟩),frames_other (fun j hj hjt=>hex ⟨j,by omega,by rw [←hl j (by omega)];exact hjt⟩)]
 have hexec:=execOp_same (ops:=ops) o' hnosel hsame
 have hwant:=wanted_same (ops:=ops) o' hsame
 unfold wpOp
 simp only [ho]
 rcases hok i o' hn ho with ⟨hw,hv,hob⟩ | ⟨hw,⟨v,hv,hob,hcalm⟩ | ⟨mk,b,hv,hob,hfr⟩⟩
 · rw [hwant,hw g,if_neg (by simp)]
   have:=J.put hn ho hlt hun hc hloc (g':=g) (fun _ _=>rfl) J.s (Ext.refl w) (by rw [hob];intro b hb;cases hb)
   rw [hv] at this
   exact hK _ _ _ this
 · rw [hwant,hw g,if_pos rfl]
   left
   have h1:=hcalm g w J.s
   unfold Oper.wp
   rw [hexec]
   have fin:∀w',Ext w w'→K (a.put o'.dst v) w':=fun w' he=>by
    have:=J.put hn ho hlt hun hc hloc (g':=g) (fun _ _=>rfl) (hSE _ _ J.s he) he (by rw [hob];intro b hb;cases hb)
    rw [hv] at this
    exact hK _ _ _ this
   generalize (execOp (frames l val (fun _=>a0) i g).eval o').run P w=r at *
   cases r with
   | halt h w'=>exact h1.elim
   | ok nx w' =>
     cases nx<;>simp only [calmUpon] at h1<;>simp only [Oper.upon]
     case value u =>
      obtain ⟨rfl,rfl⟩:=h1
      exact fin _ (Ext.refl _)
     case skip =>
      obtain ⟨rfl,rfl⟩:=h1
      exact fin _ (Ext.refl _)
     case enter f args =>
      obtain ⟨rfl,h1⟩:=h1
      exact h1.mono fun e w'' ⟨he,hx⟩=>by subst he;exact fin _ hx
 · rw [hwant,hw g,if_pos rfl]
   left
   unfold Oper.wp
   rw [hexec,hfr g w J.s]
   simp only [Oper.upon]
   have:=J.put hn ho hlt hun hc hloc (g':=fun j=>if j=i then w.heap.size else g j) (w':=w.alloc b) (fun j hj=>by simp [hj]) (hSE _ _ J.s (Ext.alloc w b)) (Ext.alloc w b)
    (by rw [hob];intro b' hb;cases hb;exact ⟨by simp only [if_true];exact hs_new,by simp⟩)
   rw [hv] at this
   simp only [if_true] at this
   exact hK _ _ _ this
end

theorem calmB_cond {ops:Array Oper} {n:Nat} (h:calmB ops n=true):∀i o,i<n→ops[i]?=some o→CalmCond ops n i o:=by
 intro i o hi ho
 simp only [calmB,Bool.and_eq_true,List.all_eq_true,List.mem_range] at h
 have h1:=h.2 i hi
 simp only [ho,Bool.and_eq_true,Array.all_eq_true_iff_forall_mem,List.all_eq_true,List.mem_range] at h1
 obtain ⟨⟨h2,h3⟩,h4⟩:=h1
 refine ⟨fun e he hb=>?_,fun t ht j hj hjt=>?_,fun j hj t ht hjt=>?_⟩
 · have:=h2 e he
   simpa [hb] using this
 · have:=h3 t ht j hj
   rw [hjt] at this
   simp only [beq_self_eq_true,Bool.not_true,Bool.false_or,Bool.and_eq_true,decide_eq_true_eq] at this
   refine ⟨this.1,?_⟩
   obtain ⟨e,he,hb⟩:=Array.any_eq_true'.1 this.2
   simp only [Bool.and_eq_true,beq_iff_eq] at hb
   exact ⟨e,he,hb.1,hb.2⟩
 · have:=h4 j hj
   rw [ht] at this
   rw [hjt] at this
   simp at this

end Go.Proofs.YtclijngnoepbiaaGreat

namespace Go.Proofs.YtclijngnoepbiaaGreat
open Go Go.RowKit
set_option linter.unusedVariables false

/-- what an operation came to: the number of the block that it made, or its value -/
structure Gh where
 n:Nat
 v:Value
 deriving Inhabited
abbrev Ghs:=Nat→Gh

def regUpon (P:Program) (w:World) (R:Value→World→Prop):Result Next→Prop
 | .ok (.value u) w'=>Ext w w'∧R u w'
 | .ok .skip w'=>Ext w w'∧R undef w'
 | .ok (.enter f args) w'=>Ext w w'∧Calls P f args w' (fun e w''=>∃u,e=.returned u∧Ext w' w''∧R u w'')
 | _=>False

inductive RegD where
 | skip
 | value (v:Ghs→Value)
 | const (v:Value)
 | call (ψ:Value→World→Prop)
 | fresh (mk:Nat→Value) (ob:Ghs→Obj)
 | turn (p:Nat) (b b':Ghs→Obj)
 | act

def RegD.val (d:RegD) (k:Nat) (g:Ghs):Value :=
 match d with
 | .skip=>undef
 | .value v=>v g
 | .const v=>v
 | .call _=>(g k).v
 | .fresh mk _=>mk (g k).n
 | .turn ..=>undef
 | .act=>(g k).v

structure RegSt where
 A:Ghs→Act
 fs:List (Nat × (Ghs→Obj))
 ts:List (Nat × (Ghs→Obj))
 ps:List (Nat × (Value→World→Prop))

def RegSt.next (s:RegSt) (d:RegD) (k:Nat) (dst:Option Tmp):RegSt where
 A:=fun g=>(s.A g).put dst (d.val k g)
 fs:=match d with | .fresh _ ob=>(k,ob) :: s.fs | .turn p _ _=>s.fs.filter (fun q=>!(q.1==p)) | _=>s.fs
 ts:=match d with | .turn p _ b'=>(p,b') :: s.ts | _=>s.ts
 ps:=match d with | .call ψ=>(k,ψ) :: s.ps | _=>s.ps

/-- operation k waits for operation j -/
inductive Anc (ops:Array Oper):Nat→Nat→Prop
 | one {j k:Nat} {o:Oper} {e:Edge}:ops[k]?=some o→e∈o.after→Region.binds .any e=true→e.on=j→Anc ops j k
 | step {j m k:Nat} {o:Oper} {e:Edge}:ops[k]?=some o→e∈o.after→Region.binds .any e=true→e.on=m→Anc ops j m→Anc ops j k

def ancB (ops:Array Oper):Nat→Nat→Nat→Bool
 | 0,_,_=>false
 | f+1,j,k=>(ops[k]?).any fun o=>o.after.any fun e=>Region.binds .any e && (e.on==j || (decide (j<e.on) && ancB ops f j e.on))

theorem anc_of {ops:Array Oper}:∀(f:Nat) {j k:Nat},ancB ops f j k=true→Anc ops j k
 | 0,_,_,h=>by simp [ancB] at h
 | f+1,j,k,h=>by
   simp only [ancB,Option.any_eq_true,Array.any_eq_true',Bool.and_eq_true,Bool.or_eq_true,beq_iff_eq] at h
   obtain ⟨o,ho,e,he,hb,h | ⟨_,h⟩⟩:=h
   · exact .one ho he hb h
   · exact .step ho he hb rfl (anc_of f h)

def RegPre (ops:Array Oper) (ps:List (Nat × (Value→World→Prop))) (k:Nat) (g:Ghs) (w:World):Prop:=∀p∈ps,Anc ops p.1 k→p.2 (g p.1).v w

/-- a block that may be turned: a map, or a term that is still zero -/
def Turnable (o:Obj):Prop:=(∃es cl,o=.map es cl)∨o=.cells #[.int .i64 0,.string ⟨#[]⟩,.int .i64 0,.slice none 0 0] 33∨o=.cells #[.int .i64 0,.string ⟨#[]⟩,.int .i64 0,.slice none 0 0,.int .i64 0,.slice none 0 0] 33
def MapStable (ψ:Value→World→Prop):Prop:=∀u w b o o',ψ u w→w.heap[b]?=some o→Turnable o→ψ u (ChangeMaps.setBlock w b o')
/-- an act: blocks from B on stay as they are -/
def ActExt (B:Nat) (w w':World):Prop:=w.heap.size≤w'.heap.size∧∀b,B≤b→b<w.heap.size→w'.heap[b]?=w.heap[b]?
def Persist (tb:Bool) (B:Nat) (acts:List Nat) (ψ:Value→World→Prop):Prop:=(∀u w w',ψ u w→Ext w w'→ψ u w')∧(tb=true→MapStable ψ)∧(acts≠[]→∀u w w',ψ u w→ActExt B w w'→ψ u w')
/-- how many acts may have run when operation k runs -/
def Phase (ops:Array Oper) (acts:List Nat) (k m:Nat):Prop:=(∀i a,acts[i]?=some a→Anc ops a k→i<m)∧(∀i a,acts[i]?=some a→Anc ops k a→m≤i)
theorem Phase.nil {ops:Array Oper} {k m:Nat}:Phase ops [] k m:=⟨fun i a h=>by simp at h,fun i a h=>by simp at h⟩
def RegFr (ops:Array Oper) (B:Nat) (fs:List (Nat × (Ghs→Obj))) (k:Nat) (g:Ghs) (w:World):Prop:=∀p∈fs,Anc ops p.1 k→w.heap[(g p.1).n]?=some (p.2 g)∧B≤(g p.1).n

def RegOk (P:Program) (ops:Array Oper) (I:List Value→World→Prop) (acts:List Nat) (B:Nat) (tb:Bool) (k:Nat) (o:Oper) (s:RegSt):RegD→Prop
 | .skip=>∀g,Region.wanted o (yielded ops (s.A g).tmps)=false
 | .value v=>(∀g,Region.wanted o (yielded ops (s.A g).tmps)=true)∧∀g w m,Phase ops acts k m→I ((acts.take m).map fun x=>(g x).v) w→RegPre ops s.ps k g w→(execOp (s.A g).eval o).run P w=.ok (.value (v g)) w
 | .const v=>(∀g,Region.wanted o (yielded ops (s.A g).tmps)=true)∧∀g w m,Phase ops acts k m→I ((acts.take m).map fun x=>(g x).v) w→RegPre ops s.ps k g w→regUpon P w (fun u _=>u=v) ((execOp (s.A g).eval o).run P w)
 | .call ψ=>(∀g,Region.wanted o (yielded ops (s.A g).tmps)=true)∧Persist tb B acts ψ∧∀g w m,Phase ops acts k m→I ((acts.take m).map fun x=>(g x).v) w→RegPre ops s.ps k g w→regUpon P w ψ ((execOp (s.A g).eval o).run P w)
 | .fresh mk ob=>(∀g,Region.wanted o (yielded ops (s.A g).tmps)=true)∧∀g w m,Phase ops acts k m→I ((acts.take m).map fun x=>(g x).v) w→RegPre ops s.ps k g w→(execOp (s.A g).eval o).run P w=.ok (.value (mk w.heap.size)) (w.alloc (ob g))
 | .turn p b b'=>(∀g,Region.wanted o (yielded ops (s.A g).tmps)=true)∧tb=true∧(p,b)∈s.fs∧Anc ops p k∧(∀g,Turnable (b g)) ∧
     ∀g w m,Phase ops acts k m→I ((acts.take m).map fun x=>(g x).v) w→RegPre ops s.ps k g w→w.heap[(g p).n]?=some (b g)→∃x,(execOp (s.A g).eval o).run P w=.ok x (ChangeMaps.setBlock w (g p).n (b' g))∧(x=.value undef∨x=.skip)
 | .act=>(∀g,Region.wanted o (yielded ops (s.A g).tmps)=true)∧tb=false∧∃i,acts[i]?=some k ∧
     ∀g w,I ((acts.take i).map fun x=>(g x).v) w→RegPre ops s.ps k g w→RegFr ops B s.fs k g w→B≤w.heap.size→∃x v w',(execOp (s.A g).eval o).run P w=.ok x w'∧(x=.value v∨x=.skip∧v=undef)∧ActExt B w w'∧I (((acts.take i).map fun x=>(g x).v)++[v]) w'

def RegD.acts:RegD→Bool
 | .act=>true
 | _=>false

def wpReg (P:Program) (ops:Array Oper) (I:List Value→World→Prop) (acts:List Nat) (B:Nat) (tb:Bool) (Q:RegSt→Prop):Nat→List Oper→RegSt→Prop
 | _,[],s=>Q s
 | k,o :: rest,s=>∃d,RegOk P ops I acts B tb k o s d∧d.acts=acts.elem k∧wpReg P ops I acts B tb Q (k+1) rest (s.next d k o.dst)

section
variable {P : Program} {ops : Array Oper} {I : List Value → World → Prop} {acts : List Nat} {B : Nat} {tb : Bool} {Q : RegSt → Prop} {k : Nat} {o : Oper} {rest : List Oper} {A : Ghs → Act} {fs ts : List (Nat × (Ghs → Obj))} {ps : List (Nat × (Value → World → Prop))}

theorem reg_skip (hw:∀g,Region.wanted o (yielded ops (A g).tmps)=false) (h:wpReg P ops I acts B tb Q (k+1) rest ⟨fun g=>(A g).put o.dst undef,fs,ts,ps⟩) (hk:false=acts.elem k:=by rfl):wpReg P ops I acts B tb Q k (o :: rest) ⟨A,fs,ts,ps⟩ :=
 ⟨.skip,hw,hk,h⟩
theorem reg_value (hw:∀g,Region.wanted o (yielded ops (A g).tmps)=true) (v:Ghs→Value) (hv:∀g w m,Phase ops acts k m→I ((acts.take m).map fun x=>(g x).v) w→RegPre ops ps k g w→(execOp (A g).eval o).run P w=.ok (.value (v g)) w)
 (h:wpReg P ops I acts B tb Q (k+1) rest ⟨fun g=>(A g).put o.dst (v g),fs,ts,ps⟩) (hk:false=acts.elem k:=by rfl):wpReg P ops I acts B tb Q k (o :: rest) ⟨A,fs,ts,ps⟩ :=
 ⟨.value v,⟨hw,hv⟩,hk,h⟩
theorem reg_const (hw:∀g,Region.wanted o (yielded ops (A g).tmps)=true) (f:FuncId) (args:Ghs→Array Value) (he:∀g w m,Phase ops acts k m→I ((acts.take m).map fun x=>(g x).v) w→RegPre ops ps k g w→(execOp (A g).eval o).run P w=.ok (.enter f (args g)) w)
 (h:∃v,(∀g w m,Phase ops acts k m→I ((acts.take m).map fun x=>(g x).v) w→RegPre ops ps k g w→Calls P f (args g) w (fun e w''=>e=.returned v∧Ext w w''))∧wpReg P ops I acts B tb Q (k+1) rest ⟨fun g=>(A g).put o.dst v,fs,ts,ps⟩) (hk:false=acts.elem k:=by rfl):wpReg P ops I acts B tb Q k (o :: rest) ⟨A,fs,ts,ps⟩ :=
 let ⟨v,hv,h⟩:=h
 ⟨.const v,⟨hw,fun g w vs hm hE hp=>by rw [he g w vs hm hE hp];exact ⟨Ext.refl w,(hv g w vs hm hE hp).mono fun e w'' ⟨a,b⟩=>⟨v,a,b,rfl⟩⟩⟩,hk,h⟩
theorem reg_call (hw:∀g,Region.wanted o (yielded ops (A g).tmps)=true) (f:FuncId) (args:Ghs→Array Value) (he:∀g w m,Phase ops acts k m→I ((acts.take m).map fun x=>(g x).v) w→RegPre ops ps k g w→(execOp (A g).eval o).run P w=.ok (.enter f (args g)) w)
 (ψ:Value→World→Prop) (hp:Persist tb B acts ψ) (hv:∀g w m,Phase ops acts k m→I ((acts.take m).map fun x=>(g x).v) w→RegPre ops ps k g w→Calls P f (args g) w (fun e w''=>∃u,e=.returned u∧Ext w w''∧ψ u w''))
 (h:wpReg P ops I acts B tb Q (k+1) rest ⟨fun g=>(A g).put o.dst (g k).v,fs,ts,(k,ψ) :: ps⟩) (hk:false=acts.elem k:=by rfl):wpReg P ops I acts B tb Q k (o :: rest) ⟨A,fs,ts,ps⟩ :=
 ⟨.call ψ,⟨hw,hp,fun g w vs hm hE hp=>by rw [he g w vs hm hE hp];exact ⟨Ext.refl w,hv g w vs hm hE hp⟩⟩,hk,h⟩
theorem reg_fresh (hw:∀g,Region.wanted o (yielded ops (A g).tmps)=true) (mk:Nat→Value) (ob:Ghs→Obj) (hv:∀g w m,Phase ops acts k m→I ((acts.take m).map fun x=>(g x).v) w→RegPre ops ps k g w→(execOp (A g).eval o).run P w=.ok (.value (mk w.heap.size)) (w.alloc (ob g)))
 (h:wpReg P ops I acts B tb Q (k+1) rest ⟨fun g=>(A g).put o.dst (mk (g k).n),(k,ob) :: fs,ts,ps⟩) (hk:false=acts.elem k:=by rfl):wpReg P ops I acts B tb Q k (o :: rest) ⟨A,fs,ts,ps⟩ :=
 ⟨.fresh mk ob,⟨hw,hv⟩,hk,h⟩
end

/-- the states -/
def regSt (l:List Oper) (d:Nat→RegD) (s:RegSt):Nat→RegSt
 | 0=>s
 | i+1=>(regSt l d s i).next (d i) i ((l[i]?).bind (·.dst))

theorem reg_specs {P:Program} {ops:Array Oper} {I:List Value→World→Prop} {acts:List Nat} {B:Nat} {tb:Bool} {Q:RegSt→Prop} (L:List Oper) (s0:RegSt):∀(l:List Oper) (k:Nat) (d0:Nat→RegD),(∀j,l[j]?=L[k+j]?)→(∀i o,i<k→L[i]?=some o→RegOk P ops I acts B tb i o (regSt L d0 s0 i) (d0 i)∧(d0 i).acts=acts.elem i) →
 wpReg P ops I acts B tb Q k l (regSt L d0 s0 k)→∃d:Nat→RegD,(∀i o,i<k+l.length→L[i]?=some o→RegOk P ops I acts B tb i o (regSt L d s0 i) (d i)∧(d i).acts=acts.elem i)∧Q (regSt L d s0 (k+l.length))
 | [],k,d0,hl,hok,h=>⟨d0,by simpa using hok,by simpa [wpReg] using h⟩
 | o :: l,k,d0,hl,hok,h=>by
   obtain ⟨dk,h1,h1a,h2⟩:=h
   have hk:L[k]?=some o:=by have:=hl 0;simpa using this.symm
   have hst:∀i,i≤k→regSt L (fun j=>if j=k then dk else d0 j) s0 i=regSt L d0 s0 i:=by
    intro i
    induction i with
    | zero=>intro _;rfl
    | succ i ih =>
      intro hi
      simp only [regSt]
      rw [ih (by omega),if_neg (by omega)]
   obtain ⟨d,h3,h4⟩:=reg_specs L s0 l (k+1) (fun j=>if j=k then dk else d0 j) (fun j=>by have:=hl (j+1);simpa [Nat.add_assoc,Nat.add_comm 1] using this)
    (fun i oi hi hoi=>by
      rw [hst i (by omega)]
      by_cases hik:i=k
      · subst hik
        rw [hk] at hoi;cases hoi
        simp only [if_true]
        exact ⟨h1,h1a⟩
      · simp only [hik,if_false]
        exact hok i oi (by omega) hoi)
    (by simp only [regSt];rw [hst k (Nat.le_refl k),hk];simpa using h2)
   refine ⟨d,?_,?_⟩
   · intro i oi hi hoi
     exact h3 i oi (by simp at hi;omega) hoi
   · rw [show k+(o :: l).length=k+1+l.length by simp;omega]
     exact h4

section
variable {l : List Oper} {d : Nat → RegD} {s0 : RegSt} {a0 : Act}

theorem regA_defers (hs:∀g,s0.A g=a0) (g:Ghs):∀m,((regSt l d s0 m).A g).defers=a0.defers
 | 0=>by simp [regSt,hs]
 | m+1=>by simp only [regSt,RegSt.next,defers_put];exact regA_defers hs g m
theorem regA_other (hs:∀g,s0.A g=a0) {g:Ghs} {t:Nat}:∀{m},(∀i,i<m→(l[i]?).bind (·.dst)≠some t)→((regSt l d s0 m).A g).tmps[t]?=a0.tmps[t]?
 | 0,_=>by simp [regSt,hs]
 | m+1,h=>by
   simp only [regSt,RegSt.next,get_put]
   rw [if_neg (h m (by omega))]
   exact regA_other hs (fun i hi=>h i (by omega))
theorem regA_at (hs:∀g,s0.A g=a0) {g:Ghs} {t i:Nat} (hi:(l[i]?).bind (·.dst)=some t):∀{m},i<m→(∀j,j<m→j≠i→(l[j]?).bind (·.dst)≠some t)→((regSt l d s0 m).A g).tmps[t]?=a0.tmps[t]?.map (fun _=>(d i).val i g)
 | 0,h,_=>by omega
 | m + 1,h,hd=>by
   simp only [regSt,RegSt.next,get_put]
   by_cases hm:m=i
   · subst hm
     rw [if_pos hi,regA_other hs (fun j hj=>hd j (by omega) (by omega))]
   · rw [if_neg (hd m (by omega) hm)]
     exact regA_at hs hi (by omega) (fun j hj=>hd j (by omega))

theorem regSt_ps (h0:s0.ps=[]):∀m,∀p∈(regSt l d s0 m).ps,p.1<m∧d p.1=.call p.2
 | 0,p,hp=>by simp [regSt,h0] at hp
 | m+1,p,hp=>by
   have ih:=regSt_ps h0 m
   simp only [regSt,RegSt.next] at hp
   cases hd:d m<;>rw [hd] at hp<;>simp only [List.mem_cons] at hp
   case call ψ =>
    rcases hp with rfl | hp
    · exact ⟨by simp,hd⟩
    · have:=ih p hp;exact ⟨by omega,this.2⟩
   all_goals (have:=ih p hp;exact ⟨by omega,this.2⟩)

theorem regSt_fs (h0:s0.fs=[]):∀m,(∀k p b b',k<m→d k=.turn p b b'→p<k)→∀p∈(regSt l d s0 m).fs,p.1<m∧(∃mk,d p.1=.fresh mk p.2)∧∀k,k<m→∀b b',d k≠.turn p.1 b b'
 | 0,_,p,hp=>by simp [regSt,h0] at hp
 | m + 1,ht,p,hp=>by
   have ih:=regSt_fs h0 m (fun k p b b' hk=>ht k p b b' (by omega))
   have old:p∈(regSt l d s0 m).fs→(∀b b',d m≠.turn p.1 b b')→p.1<m+1∧(∃mk,d p.1=.fresh mk p.2)∧∀k,k<m+1→∀b b',d k≠.turn p.1 b b':=fun hp hm=>by
    obtain ⟨h1,h2,h3⟩:=ih p hp
    refine ⟨by omega,h2,fun k hk b b'=>?_⟩
    by_cases hkm:k=m
    · subst hkm;exact hm b b'
    · exact h3 k (by omega) b b'
   simp only [regSt,RegSt.next] at hp
   cases hd:d m<;>rw [hd] at hp<;>simp only [List.mem_cons,List.mem_filter] at hp
   case fresh mk ob =>
    rcases hp with rfl | hp
    · refine ⟨by simp,⟨mk,hd⟩,fun k hk b b' hkt=>?_⟩
      have:=ht k _ b b' hk hkt
      simp at this
      omega
    · exact old hp (fun b b' h=>by rw [hd] at h;cases h)
   case turn q b b' =>
    refine old hp.1 (fun c c' h=>?_)
    rw [hd] at h
    cases h
    simp at hp
   all_goals exact old hp (fun b b' h=>by rw [hd] at h;cases h)

theorem regSt_ts (h0:s0.ts=[]):∀m,∀p∈(regSt l d s0 m).ts,∃k b,k<m∧d k=.turn p.1 b p.2
 | 0,p,hp=>by simp [regSt,h0] at hp
 | m+1,p,hp=>by
   have ih:=regSt_ts h0 m
   have old:p∈(regSt l d s0 m).ts→∃k b,k<m+1∧d k=.turn p.1 b p.2:=fun hp=>by
    obtain ⟨k,b,h1,h2⟩:=ih p hp
    exact ⟨k,b,by omega,h2⟩
   simp only [regSt,RegSt.next] at hp
   cases hd:d m<;>rw [hd] at hp<;>simp only [List.mem_cons] at hp
   case turn q b b' =>
    rcases hp with rfl | hp
    · exact ⟨m,b,by omega,hd⟩
    · exact old hp
   all_goals exact old hp

theorem regSt_nodup (h0:s0.fs=[]) (h1:s0.ts=[]):∀m,(∀k p b b',k<m→d k=.turn p b b'→(p,b)∈(regSt l d s0 k).fs)→(∀k p b b',k<m→d k=.turn p b b'→p<k)→(((regSt l d s0 m).fs++(regSt l d s0 m).ts).map (·.1)).Nodup
 | 0,_,_=>by simp [regSt,h0,h1]
 | m + 1,hin,ht=>by
   have ih:=regSt_nodup h0 h1 m (fun k p b b' hk=>hin k p b b' (by omega)) (fun k p b b' hk=>ht k p b b' (by omega))
   have hf:=regSt_fs (l:=l) (d:=d) (s0:=s0) h0 m (fun k p b b' hk=>ht k p b b' (by omega))
   have htt:=regSt_ts (l:=l) (d:=d) (s0:=s0) h1 m
   simp only [regSt,RegSt.next]
   cases hd:d m<;>simp only<;>try exact ih
   case fresh mk ob =>
    simp only [List.cons_append,List.map_cons,List.nodup_cons]
    refine ⟨fun hmem=>?_,ih⟩
    obtain ⟨p,hp,he⟩:=List.mem_map.1 hmem
    rcases List.mem_append.1 hp with hp | hp
    · have:=(hf p hp).1;omega
    · obtain ⟨k,b,hk,hkt⟩:=htt p hp
      have:=ht k _ _ _ (by omega) hkt
      omega
   case turn q b b' =>
    have hq:=hin m q b b' (by omega) hd
    rw [List.map_append,List.nodup_append] at ih ⊢
    obtain ⟨n1,n2,n3⟩:=ih
    refine ⟨(List.Sublist.map _ (List.filter_sublist)).nodup n1,?_,?_⟩
    · simp only [List.map_cons,List.nodup_cons]
      refine ⟨fun hmem=>?_,n2⟩
      exact n3 q (List.mem_map.2 ⟨_,hq,rfl⟩) q hmem rfl
    · intro x hx y hy
      obtain ⟨p,hp,rfl⟩:=List.mem_map.1 hx
      obtain ⟨hp,hpq⟩:=List.mem_filter.1 hp
      simp only [List.map_cons,List.mem_cons] at hy
      rcases hy with rfl | hy
      · simpa using hpq
      · exact n3 _ (List.mem_map.2 ⟨p,hp,rfl⟩) y hy
end

def Agree (listed:Array Bool) (g g':Ghs):Prop:=∀i,listed.getD i false=true→g' i=g i

def RegFresh (B:Nat) (fs:List (Nat × (Ghs→Obj))) (g:Ghs) (w:World):Prop :=
 B≤w.heap.size∧(∀p∈fs,w.heap[(g p.1).n]?=some (p.2 g)∧B≤(g p.1).n)∧fs.Pairwise fun p q=>(g p.1).n≠(g q.1).n

structure RegJ (I:List Value→World→Prop) (acts:List Nat) (B:Nat) (ops:Array Oper) (n:Nat) (a0:Act) (d:Nat→RegD) (listed:Array Bool) (a:Act) (w:World) (g:Ghs):Prop where
 lo:B≤w.heap.size
 inv:∃m,m≤acts.length∧(∀i1 x,acts[i1]?=some x→(listed.getD x false=true↔i1<m))∧I ((acts.take m).map fun x=>(g x).v) w
 defers:a.defers=a0.defers
 at_:∀g',Agree listed g g'→∀i,i<n→listed.getD i false=true→∀t,(ops[i]?).bind (·.dst)=some t→a.tmps[t]?=a0.tmps[t]?.map (fun _=>(d i).val i g')
 other:∀t,(∀i,i<n→listed.getD i false=true→(ops[i]?).bind (·.dst)≠some t)→a.tmps[t]?=a0.tmps[t]?
 fresh:∀g',Agree listed g g'→∀i,i<n→listed.getD i false=true→∀mk b,d i=.fresh mk b→B≤(g' i).n∧∃c,w.heap[(g' i).n]?=some c ∧
  ((∀k,k<n→listed.getD k false=true→∀x y,d k≠.turn i x y)→c=b g')∧(∀k,k<n→listed.getD k false=true→∀x y,d k=.turn i x y→c=y g')
 apart:∀i j,i<n→j<n→listed.getD i false=true→listed.getD j false=true→i≠j→∀mk b mk' b',d i=.fresh mk b→d j=.fresh mk' b'→(g i).n≠(g j).n
 facts:∀i,i<n→listed.getD i false=true→∀ψ,d i=.call ψ→ψ (g i).v w

theorem anc_listed {ops:Array Oper} {listed:Array Bool} (hcl:∀i,listed.getD i false=true→∀o,ops[i]?=some o→∀e∈o.after,Region.binds .any e=true→listed.getD e.on false=true)
 {j k:Nat} (h:Anc ops j k):(∀o,ops[k]?=some o→∀e∈o.after,Region.binds .any e=true→listed.getD e.on false=true)→listed.getD j false=true:=by
 induction h with
 | one ho he hb hon=>intro hk;rw [←hon];exact hk _ ho _ he hb
 | step ho he hb hon _ ih=>intro hk;exact ih (fun o' ho' e' he' hb'=>hcl _ (by rw [←hon];exact hk _ ho _ he hb) o' ho' e' he' hb')

theorem reg_turned_block {w:World} {b k:Nat} {o:Obj} (hk:k≠b):(ChangeMaps.setBlock w b o).heap[k]?=w.heap[k]?:=by
 simp only [ChangeMaps.setBlock]
 rw [Array.setIfInBounds_def]
 split
 · rw [Array.getElem?_set_ne _ (fun h=>hk h.symm)]
 · rfl
theorem reg_turned_same {w:World} {b:Nat} {o o':Obj} (h:w.heap[b]?=some o'):(ChangeMaps.setBlock w b o).heap[b]?=some o:=by
 have:=(Array.getElem?_eq_some_iff.1 h).1
 simp [ChangeMaps.setBlock,this]
theorem reg_turned_ext {W w:World} {b:Nat} {o:Obj} (h:Ext W w) (hb:W.heap.size≤b):Ext W (ChangeMaps.setBlock w b o) :=
 ⟨h.os,h.tape,h.output,by simpa [ChangeMaps.setBlock] using h.size,fun k hk=>by rw [reg_turned_block (by omega)];exact Ext.block h hk⟩

section
variable {P : Program} {ops : Array Oper} {n : Nat} {I : List Value → World → Prop} {acts : List Nat} {B : Nat} {tb : Bool} {a0 : Act} {d : Nat → RegD} {listed : Array Bool} {a : Act} {w : World} {g : Ghs}

theorem RegJ.put (J:RegJ I acts B ops n a0 d listed a w g) {i:Nat} {o:Oper} (hn:i<n) (ho:ops[i]?=some o) (hlt:i<listed.size) (hun:listed.getD i false=false)
 (hc:∀i o,i<n→ops[i]?=some o→CalmCond ops n i o) {w':World} {g':Ghs} (hg:∀j,j≠i→g' j=g j) {V:Value} (hV:∀g'',Agree (listed.setIfInBounds i true) g' g''→(d i).val i g''=V) (hS:B≤w'.heap.size) (hinv:∃m,m≤acts.length∧(∀i1 x,acts[i1]?=some x→((listed.setIfInBounds i true).getD x false=true↔i1<m))∧I ((acts.take m).map fun x=>(g' x).v) w')
 (hfresh:∀g'',Agree (listed.setIfInBounds i true) g' g''→∀j,j<n→(listed.setIfInBounds i true).getD j false=true→∀mk b,d j=.fresh mk b→B≤(g'' j).n∧∃c,w'.heap[(g'' j).n]?=some c ∧
   ((∀k,k<n→(listed.setIfInBounds i true).getD k false=true→∀x y,d k≠.turn j x y)→c=b g'')∧(∀k,k<n→(listed.setIfInBounds i true).getD k false=true→∀x y,d k=.turn j x y→c=y g''))
 (hold:∀j,j<n→j≠i→listed.getD j false=true→∀mk b,d j=.fresh mk b→∀mk' b',d i=.fresh mk' b'→(g j).n≠(g' i).n)
 (hfacts:∀j,j<n→(listed.setIfInBounds i true).getD j false=true→∀ψ,d j=.call ψ→ψ (g' j).v w') :
 RegJ I acts B ops n a0 d (listed.setIfInBounds i true) (a.put o.dst V) w' g':=by
 have hlist:∀j,j≠i→(listed.setIfInBounds i true).getD j false=listed.getD j false:=fun j h=>getD_set_ne false (Ne.symm h)
 have hdist:∀j,j<n→j≠i→∀t,o.dst=some t→(ops[j]?).bind (·.dst)≠some t:=by
  intro j hj hji t ht hjt
  rcases Nat.lt_or_ge j i with h | h
  · exact (hc i o hn ho).once j h t ht hjt
  · cases hoj:ops[j]? with
    | none=>rw [hoj] at hjt;cases hjt
    | some oj =>
      rw [hoj] at hjt
      exact (hc j oj hj hoj).once i (by omega) t hjt (by rw [ho];exact ht)
 have hag:∀g'',Agree (listed.setIfInBounds i true) g' g''→Agree listed g g'':=fun g'' h j hj=>by
  have hji:j≠i:=fun e=>by subst e;rw [hun] at hj;cases hj
  rw [h j (by rw [hlist j hji];exact hj),hg j hji]
 refine ⟨hS,hinv,by rw [defers_put];exact J.defers,?_,?_,hfresh,?_,hfacts⟩
 · intro g'' hag' j hj hl t ht
   rw [get_put]
   by_cases hji:j=i
   · subst hji
     have hd:o.dst=some t:=by rw [ho] at ht;exact ht
     rw [if_pos hd]
     have:a.tmps[t]?=a0.tmps[t]?:=J.other t (fun k hk hlk hkt=>by
      by_cases hkj:k=j
      · subst hkj;rw [hun] at hlk;cases hlk
      · exact hdist k hk hkj t hd hkt)
     rw [this,hV g'' hag']
   · rw [if_neg (fun hd=>hdist j hj hji t hd ht),J.at_ g'' (hag g'' hag') j hj (by rw [hlist j hji] at hl;exact hl) t ht]
 · intro t ht
   rw [get_put]
   have h1:o.dst≠some t:=fun hd=>ht i hn (getD_set_self hlt) (by rw [ho];exact hd)
   rw [if_neg h1]
   exact J.other t (fun j hj hl=>by
    by_cases hji:j=i
    · subst hji;rw [hun] at hl;cases hl
    · exact ht j hj (by rw [hlist j hji];exact hl))
 · intro j k hj hk hlj hlk hjk mk b mk' b' hdj hdk
   by_cases hji:j=i
   · subst hji
     have hkj:k≠j:=fun e=>hjk e.symm
     rw [hg k hkj]
     exact fun e=>hold k hk hkj (by rw [hlist k hkj] at hlk;exact hlk) _ _ hdk _ _ hdj e.symm
   · by_cases hki:k=i
     · subst hki
       rw [hg j hji]
       exact hold j hj hji (by rw [hlist j hji] at hlj;exact hlj) _ _ hdj _ _ hdk
     · rw [hg j hji,hg k hki]
       exact J.apart j k hj hk (by rw [hlist j hji] at hlj;exact hlj) (by rw [hlist k hki] at hlk;exact hlk) hjk _ _ _ _ hdj hdk

theorem RegJ.inv_keep (J:RegJ I acts B ops n a0 d listed a w g) {i:Nat} (hna:acts.elem i=false) {w':World} {g':Ghs} (hg:∀j,j≠i→g' j=g j) (hI:∀vs,I vs w→I vs w') :
 ∃m,m≤acts.length∧(∀i1 x,acts[i1]?=some x→((listed.setIfInBounds i true).getD x false=true↔i1<m))∧I ((acts.take m).map fun x=>(g' x).v) w':=by
 obtain ⟨m,h1,h2,h3⟩:=J.inv
 have hne:∀x∈acts,x≠i:=fun x hx e=>by subst e;simp at hna;exact hna hx
 refine ⟨m,h1,fun i' x hx=>?_,?_⟩
 · rw [getD_set_ne false (Ne.symm (hne x (List.mem_of_getElem? hx)))]
   exact h2 i' x hx
 · rw [List.map_congr_left (g:=fun x=>(g x).v) (fun x hx=>by rw [hg x (hne x (List.mem_of_mem_take hx))])]
   exact hI _ h3

/-- an operation that makes no block and turns none -/
theorem RegJ.put_ext (J:RegJ I acts B ops n a0 d listed a w g) {i:Nat} {o:Oper} (hn:i<n) (ho:ops[i]?=some o) (hlt:i<listed.size) (hun:listed.getD i false=false)
 (hc:∀i o,i<n→ops[i]?=some o→CalmCond ops n i o) (hper:∀j ψ,j<n→d j=.call ψ→Persist tb B acts ψ) (hna:acts.elem i=false) (hIE:∀vs w w',I vs w→Ext w w'→I vs w') (hnf:∀mk b,d i≠.fresh mk b) (hnt:∀p x y,d i≠.turn p x y)
 {w':World} {g':Ghs} (hg:∀j,j≠i→g' j=g j) {V:Value} (hV:∀g'',Agree (listed.setIfInBounds i true) g' g''→(d i).val i g''=V) (hE:Ext w w') (hf:∀ψ,d i=.call ψ→ψ (g' i).v w') :
 RegJ I acts B ops n a0 d (listed.setIfInBounds i true) (a.put o.dst V) w' g':=by
 have hlist:∀j,j≠i→(listed.setIfInBounds i true).getD j false=listed.getD j false:=fun j h=>getD_set_ne false (Ne.symm h)
 refine J.put hn ho hlt hun hc hg hV (Nat.le_trans J.lo hE.size) (J.inv_keep hna hg (fun vs h=>hIE _ _ _ h hE)) ?_ (fun j _ _ _ _ _ _ mk' b' h=>absurd h (hnf mk' b')) ?_
 · intro g'' hag j hj hl mk b hdj
   have hji:j≠i:=fun e=>by subst e;exact hnf _ _ hdj
   have hag':Agree listed g g'':=fun k hk=>by
    have hki:k≠i:=fun e=>by subst e;rw [hun] at hk;cases hk
    rw [hag k (by rw [hlist k hki];exact hk),hg k hki]
   obtain ⟨h1,c,h2,h3,h4⟩:=J.fresh g'' hag' j hj (by rw [hlist j hji] at hl;exact hl) mk b hdj
   refine ⟨h1,c,hs_ext hE h2,fun h=>h3 (fun k hk hlk=>h k hk ?_),fun k hk hlk x y hkt=>h4 k hk ?_ x y hkt⟩
   · by_cases hki:k=i
     · subst hki;rw [hun] at hlk;cases hlk
     · rw [hlist k hki];exact hlk
   · have hki:k≠i:=fun e=>by subst e;exact hnt _ _ _ hkt
     rw [hlist k hki] at hlk;exact hlk
 · intro j hj hl ψ hdj
   by_cases hji:j=i
   · subst hji;exact hf ψ hdj
   · rw [hg j hji]
     exact (hper j ψ hj hdj).1 _ _ _ (J.facts j hj (by rw [hlist j hji] at hl;exact hl) ψ hdj) hE

theorem RegJ.step {Q:Exit→Act→World→Prop} {l:List Oper} {s0:RegSt} (hs0:s0=⟨fun _=>a0,[],[],[]⟩) (J:RegJ I acts B ops n a0 d listed a w g) {i:Nat} {o:Oper} (hn:i<n) (ho:ops[i]?=some o) (hlt:i<listed.size) (hr:i∈Region.ready .any ops listed)
 (hns:n≤ops.size) (hnosel:∀cs b,o.op≠.select cs b) (hl:∀j,j<n→l[j]?=ops[j]?) (hcl:∀j oj,ops[j]?=some oj→listed.getD j false=true→∀e∈oj.after,Region.binds .any e=true→listed.getD e.on false=true)
 (hc:∀i o,i<n→ops[i]?=some o→CalmCond ops n i o) (hok:∀j o,j<n→ops[j]?=some o→RegOk P ops I acts B tb j o (regSt l d s0 j) (d j)) (hacts:∀j,j<n→(d j).acts=acts.elem j) (hIE:∀vs w w',I vs w→Ext w w'→I vs w') (hIT:tb=true→∀vs w b o,I vs w→B≤b→I vs (ChangeMaps.setBlock w b o))
 (hnd:acts.Nodup) (hch:∀i x y,acts[i]?=some x→acts[i+1]?=some y→Anc ops x y)
 {K:Act→World→Prop} (hK:∀a' w' g',RegJ I acts B ops n a0 d (listed.setIfInBounds i true) a' w' g'→K a' w'):wpOp P ops Q i K a w:=by
 obtain ⟨hun',o',ho',hall⟩:=mem_ready.1 hr
 have:o'=o:=Option.some.inj (ho'.symm.trans ho)
 subst this
 have hun:listed.getD i false=false:=getD_both hun'
 have hlist:∀j,j≠i→(listed.setIfInBounds i true).getD j false=listed.getD j false:=fun j h=>getD_set_ne false (Ne.symm h)
 have hanc:∀j,Anc ops j i→listed.getD j false=true:=fun j hj=>anc_listed (fun j hj oj hoj=>hcl j oj hoj hj) hj (fun o'' ho'' e he hb=>by rw [ho'] at ho'';cases ho'';exact hall e he hb)
 have hlistedanc:∀k j,listed.getD k false=true→Anc ops j k→listed.getD j false=true:=fun k j hk hj=>anc_listed (fun j hj oj hoj=>hcl j oj hoj hj) hj (fun o'' ho'' e he hb=>hcl k o'' ho'' hk e he hb)
 have hps0:s0.ps=[]:=by rw [hs0]
 have hfs0:s0.fs=[]:=by rw [hs0]
 have hA0:∀g,s0.A g=a0:=by intro g;rw [hs0]
 have hget:∀j,j<n→∃oj,ops[j]?=some oj:=fun j hj=>⟨ops[j]'(by omega),by simp [show j<ops.size by omega]⟩
 have hper:∀j ψ,j<n→d j=.call ψ→Persist tb B acts ψ:=fun j ψ hj hdj=>by
  obtain ⟨oj,hoj⟩:=hget j hj
  have:=hok j oj hj hoj
  rw [hdj] at this
  exact this.2.1
 have hag:∀(g' g'':Ghs),(∀j,j≠i→g' j=g j)→Agree (listed.setIfInBounds i true) g' g''→Agree listed g g'':=fun g' g'' hg h j hj=>by
  have hji:j≠i:=fun e=>by subst e;rw [hun] at hj;cases hj
  rw [h j (by rw [hlist j hji];exact hj),hg j hji]
 have hsame:∀g'',Agree listed g g''→∀t,t∈o'.looksAt ops→a.tmps[t]?=((regSt l d s0 i).A g'').tmps[t]?:=by
  intro g'' hg'' t ht
  by_cases hex:∃j,j<n∧(ops[j]?).bind (·.dst)=some t
  · obtain ⟨j,hj,hjt⟩:=hex
    obtain ⟨hji,e,he,hb,hon⟩:=(hc i o' hn ho).reads t ht j hj hjt
    have hlj:=hall e he hb
    rw [hon] at hlj
    rw [J.at_ g'' hg'' j hj hlj t hjt,regA_at hA0 (by rw [hl j hj];exact hjt) hji (fun k hk hkj=>?_)]
    rw [hl k (by omega)]
    intro hkt
    rcases Nat.lt_or_ge k j with h | h
    · cases hoj:ops[j]? with
      | none=>rw [hoj] at hjt;cases hjt
      | some oj=>rw [hoj] at hjt;exact (hc j oj hj hoj).once k h t hjt hkt
    · cases hok':ops[k]? with
      | none=>rw [hok'] at hkt;cases hkt
      | some ok=>rw [hok'] at hkt;exact (hc k ok (by omega) hok').once j (by omega) t hkt hjt
  · rw [J.other t (fun j hj _ hjt=>hex ⟨j,hj,hjt⟩),regA_other hA0 (fun j hj hjt=>hex ⟨j,by omega,by rw [←hl j (by omega)];exact hjt⟩)]
 have hexec:∀g'',Agree listed g g''→execOp a.eval o'=execOp ((regSt l d s0 i).A g'').eval o':=fun g'' h=>execOp_same (ops:=ops) o' hnosel (hsame g'' h)
 have hwant:=wanted_same (ops:=ops) o' (hsame g (fun _ _=>rfl))
 have hpre:∀g'',Agree listed g g''→RegPre ops (regSt l d s0 i).ps i g'' w:=by
  intro g'' hg'' p hp hanc'
  obtain ⟨h1,h2⟩:=regSt_ps hps0 i p hp
  have hlp:=hanc _ hanc'
  rw [hg'' _ hlp]
  exact J.facts p.1 (by omega) hlp p.2 h2
 have hOk:=hok i o' hn ho
 have hna:=hacts i hn
 obtain ⟨m,hm1,hm2,hI0⟩:=J.inv
 have hIg:∀g'',Agree listed g g''→I ((acts.take m).map fun x=>(g'' x).v) w:=fun g'' h=>by
  rw [List.map_congr_left (g:=fun x=>(g x).v) (fun x hx=>by
   obtain ⟨q,hq⟩:=List.mem_iff_getElem?.1 hx
   have hqm:=(List.getElem?_eq_some_iff.1 hq).1
   rw [List.length_take] at hqm
   rw [List.getElem?_take,if_pos (by omega)] at hq
   rw [h x ((hm2 q x hq).2 (by omega))])]
  exact hI0
 have hph:Phase ops acts i m:=by
  exact ⟨fun i' x hx hxa=>(hm2 i' x hx).1 (hanc x hxa),fun i' x hx hxa=>Nat.le_of_not_lt fun hlt'=>by
   have:=hlistedanc x i ((hm2 i' x hx).2 hlt') hxa
   rw [hun] at this;cases this⟩
 unfold wpOp
 simp only [ho]
 cases hd:d i<;>rw [hd] at hOk<;>simp only [RegOk] at hOk
 case skip =>
  rw [hwant,hOk g,if_neg (by simp)]
  have:=J.put_ext hn ho hlt hun hc hper (by rw [hd] at hna;exact hna.symm) hIE (by rw [hd];simp) (by rw [hd];simp) (g':=g) (V:=undef) (fun _ _=>rfl) (fun g'' _=>by rw [hd];rfl) (Ext.refl w) (fun ψ h=>by rw [hd] at h;cases h)
  exact hK _ _ _ this
 case value v =>
  obtain ⟨hw,hv⟩:=hOk
  rw [hwant,hw g,if_pos rfl]
  left
  unfold Oper.wp
  have h0:=hv g w m hph hI0 (hpre g (fun _ _=>rfl))
  rw [hexec g (fun _ _=>rfl),h0]
  simp only [Oper.upon]
  refine hK _ _ g (J.put_ext hn ho hlt hun hc hper (by rw [hd] at hna;exact hna.symm) hIE (by rw [hd];simp) (by rw [hd];simp) (fun _ _=>rfl) (fun g'' hg''=>?_) (Ext.refl w) (fun ψ h=>by rw [hd] at h;cases h))
  rw [hd]
  have h1:=hag g g'' (fun _ _=>rfl) hg''
  have h2:=hv g'' w m hph (hIg g'' h1) (hpre g'' h1)
  rw [←hexec g'' h1,hexec g (fun _ _=>rfl),h0] at h2
  simp only [Result.ok.injEq,Next.value.injEq,and_true] at h2
  exact h2.symm
 case const v =>
  obtain ⟨hw,hv⟩:=hOk
  rw [hwant,hw g,if_pos rfl]
  left
  unfold Oper.wp
  have h0:=hv g w m hph hI0 (hpre g (fun _ _=>rfl))
  rw [hexec g (fun _ _=>rfl)]
  have fin:∀w',Ext w w'→K (a.put o'.dst v) w':=fun w' he =>
   hK _ _ g (J.put_ext hn ho hlt hun hc hper (by rw [hd] at hna;exact hna.symm) hIE (by rw [hd];simp) (by rw [hd];simp) (fun _ _=>rfl) (fun g'' hg''=>by rw [hd];rfl) he (fun ψ h=>by rw [hd] at h;cases h))
  generalize (execOp ((regSt l d s0 i).A g).eval o').run P w=r at *
  cases r with
  | halt h w'=>exact h0.elim
  | ok nx w' =>
    cases nx<;>simp only [regUpon] at h0<;>simp only [Oper.upon]
    case value u =>
     obtain ⟨he,rfl⟩:=h0
     exact fin _ he
    case skip =>
     obtain ⟨he,rfl⟩:=h0
     exact fin _ he
    case enter f args =>
     obtain ⟨he,h1⟩:=h0
     exact h1.mono fun e w'' ⟨u,he',hx,hu⟩=>by subst he';subst hu;exact fin _ (he.trans hx)
 case call ψ =>
  obtain ⟨hw,hp,hv⟩:=hOk
  rw [hwant,hw g,if_pos rfl]
  left
  unfold Oper.wp
  have h0:=hv g w m hph hI0 (hpre g (fun _ _=>rfl))
  rw [hexec g (fun _ _=>rfl)]
  have fin:∀u w',Ext w w'→ψ u w'→K (a.put o'.dst u) w':=fun u w' he hψ =>
   hK _ _ (fun j=>if j=i then ⟨0,u⟩ else g j) (J.put_ext hn ho hlt hun hc hper (by rw [hd] at hna;exact hna.symm) hIE (by rw [hd];simp) (by rw [hd];simp) (fun j hj=>by simp [hj]) (fun g'' hg''=>by rw [hd];simp only [RegD.val];rw [hg'' i (getD_set_self hlt)];simp) he
    (fun ψ' h=>by rw [hd] at h;cases h;simpa using hψ))
  generalize (execOp ((regSt l d s0 i).A g).eval o').run P w=r at *
  cases r with
  | halt h w'=>exact h0.elim
  | ok nx w' =>
    cases nx<;>simp only [regUpon] at h0<;>simp only [Oper.upon]
    case value u =>
     obtain ⟨he,hu⟩:=h0
     exact fin _ _ he hu
    case skip =>
     obtain ⟨he,hu⟩:=h0
     exact fin _ _ he hu
    case enter f args =>
     obtain ⟨he,h1⟩:=h0
     exact h1.mono fun e w'' ⟨u,he',hx,hu⟩=>by subst he';exact fin _ _ (he.trans hx) hu
 case fresh mk ob =>
  obtain ⟨hw,hv⟩:=hOk
  rw [hwant,hw g,if_pos rfl]
  left
  unfold Oper.wp
  have h0:=hv g w m hph hI0 (hpre g (fun _ _=>rfl))
  rw [hexec g (fun _ _=>rfl),h0]
  simp only [Oper.upon]
  have hgg:∀j,j≠i→(fun j=>if j=i then (⟨w.heap.size,undef⟩:Gh) else g j) j=g j:=fun j hj=>by simp [hj]
  have hE:Ext w (w.alloc (ob g)):=Ext.alloc w _
  refine hK _ _ (fun j=>if j=i then ⟨w.heap.size,undef⟩ else g j) (J.put hn ho hlt hun hc hgg (fun g'' hg''=>?_) (Nat.le_trans J.lo hE.size) (J.inv_keep (by rw [hd] at hna;exact hna.symm) hgg (fun vs h=>hIE _ _ _ h hE)) ?_ ?_ ?_)
  · rw [hd];simp only [RegD.val];rw [hg'' i (getD_set_self hlt)];simp
  · intro g'' hg'' j hj hl' mk' b' hdj
    have h1:=hag _ g'' hgg hg''
    by_cases hji:j=i
    · subst hji
      rw [hd] at hdj;cases hdj
      have h2:=hv g'' w m hph (hIg g'' h1) (hpre g'' h1)
      rw [←hexec g'' h1,hexec g (fun _ _=>rfl),h0] at h2
      simp only [Result.ok.injEq,true_and] at h2
      rw [hg'' j (getD_set_self hlt)]
      simp only [if_true]
      refine ⟨J.lo,ob g'',by rw [h2];exact hs_new,fun _=>rfl,fun k hk hlk x y hkt=>?_⟩
      exfalso
      have hkj:k≠j:=fun e=>by subst e;rw [hd] at hkt;cases hkt
      obtain ⟨ok,hok'⟩:=hget k hk
      have:=hok k ok hk hok'
      rw [hkt] at this
      have:=hlistedanc k j (by rw [hlist k hkj] at hlk;exact hlk) this.2.2.2.1
      rw [hun] at this;cases this
    · obtain ⟨h2,c,h3,h4,h5⟩:=J.fresh g'' h1 j hj (by rw [hlist j hji] at hl';exact hl') mk' b' hdj
      refine ⟨h2,c,hs_ext hE h3,fun h=>h4 (fun k hk hlk=>h k hk ?_),fun k hk hlk x y hkt=>h5 k hk ?_ x y hkt⟩
      · by_cases hki:k=i
        · subst hki;rw [hun] at hlk;cases hlk
        · rw [hlist k hki];exact hlk
      · have hki:k≠i:=fun e=>by subst e;rw [hd] at hkt;cases hkt
        rw [hlist k hki] at hlk;exact hlk
  · intro j hj hji hlj mk' b' hdj _ _ _
    obtain ⟨-,c,h3,-⟩:=J.fresh g (fun _ _=>rfl) j hj hlj mk' b' hdj
    have:=(Array.getElem?_eq_some_iff.1 h3).1
    simp only [if_true]
    omega
  · intro j hj hl' ψ hdj
    have hji:j≠i:=fun e=>by subst e;rw [hd] at hdj;cases hdj
    simp only [hji,if_false]
    exact (hper j ψ hj hdj).1 _ _ _ (J.facts j hj (by rw [hlist j hji] at hl';exact hl') ψ hdj) hE
 case turn p b b' =>
  obtain ⟨hw,htb,hmem,hap,hmap,hv⟩:=hOk
  rw [hwant,hw g,if_pos rfl]
  left
  unfold Oper.wp
  have hpl:=hanc p hap
  have hturn : ∀ k p x y,k<n→d k=.turn p x y→p<k:=fun k p x y hk hkt=>by
   obtain ⟨ok,hok'⟩:=hget k hk
   have:=hok k ok hk hok'
   rw [hkt] at this
   have hm:=this.2.2.1
   -- an element of fs is below its index
   clear this
   have gen : ∀ m, ∀ q∈(regSt l d s0 m).fs,q.1<m:=by
    intro m
    induction m with
    | zero=>intro q hq;simp [regSt,hfs0] at hq
    | succ m ih =>
      intro q hq
      simp only [regSt,RegSt.next] at hq
      cases hdm:d m<;>rw [hdm] at hq<;>simp only [List.mem_cons,List.mem_filter] at hq
      case fresh => rcases hq with rfl | hq
                    · simp
                    · have:=ih q hq;omega
      case turn=>have:=ih q hq.1;omega
      all_goals (have:=ih q hq;omega)
   exact gen k _ hm
  obtain ⟨hpi,⟨mk0,hdp⟩,hno⟩:=regSt_fs (l:=l) (d:=d) (s0:=s0) hfs0 i (fun k p x y hk=>hturn k p x y (by omega)) (p,b) hmem
  simp only at hpi hdp hno
  have honly:∀k,k<n→∀x y,d k=.turn p x y→k=i:=by
   intro k hk x y hkt
   rcases Nat.lt_trichotomy k i with h | h | h
   · exact absurd hkt (hno k h x y)
   · exact h
   · obtain ⟨ok,hok'⟩:=hget k hk
     have:=hok k ok hk hok'
     rw [hkt] at this
     obtain ⟨-,-,h3⟩:=regSt_fs (l:=l) (d:=d) (s0:=s0) hfs0 k (fun k' p x y hk'=>hturn k' p x y (by omega)) (p,x) this.2.2.1
     exact absurd hd (h3 i h b b')
  have hblk:∀g'',Agree listed g g''→B≤(g'' p).n∧w.heap[(g'' p).n]?=some (b g''):=by
   intro g'' hg''
   obtain ⟨h1,c,h2,h3,-⟩:=J.fresh g'' hg'' p (by omega) hpl mk0 b hdp
   have e:=h3 (fun k hk hlk x y hkt=>by
    have:=honly k hk x y hkt
    subst this
    rw [hun] at hlk;cases hlk)
   exact ⟨h1,by rw [h2,e]⟩
  obtain ⟨hB,hb0⟩:=hblk g (fun _ _=>rfl)
  obtain ⟨x,h0,hx⟩:=hv g w m hph hI0 (hpre g (fun _ _=>rfl)) hb0
  rw [hexec g (fun _ _=>rfl),h0]
  have key:K (a.put o'.dst undef) (ChangeMaps.setBlock w (g p).n (b' g)):=by
   refine hK _ _ g (J.put hn ho hlt hun hc (fun _ _=>rfl) (fun g'' hg''=>by rw [hd];rfl) (by simpa [ChangeMaps.setBlock] using J.lo) (J.inv_keep (by rw [hd] at hna;exact hna.symm) (fun _ _=>rfl) (fun vs h=>hIT htb _ _ _ _ h hB)) ?_ (fun j _ _ _ _ _ _ mk' c' h=>by rw [hd] at h;cases h) ?_)
   · intro g'' hg'' j hj hl' mk' c' hdj
     have h1:=hag g g'' (fun _ _=>rfl) hg''
     have hji:j≠i:=fun e=>by subst e;rw [hd] at hdj;cases hdj
     have hlj:listed.getD j false=true:=by rw [hlist j hji] at hl';exact hl'
     by_cases hjp:j=p
     · subst hjp
       rw [hdp] at hdj;cases hdj
       obtain ⟨hB',hb1⟩:=hblk g'' h1
       obtain ⟨x',h2,-⟩:=hv g'' w m hph (hIg g'' h1) (hpre g'' h1) hb1
       rw [←hexec g'' h1,hexec g (fun _ _=>rfl),h0] at h2
       simp only [Result.ok.injEq] at h2
       rw [h2.2]
       refine ⟨hB',b' g'',reg_turned_same hb1,fun h=>absurd hd (h i hn (getD_set_self hlt) b b'),fun k hk _ x y hkt=>?_⟩
       have:=honly k hk x y hkt
       subst this
       rw [hd] at hkt;cases hkt;rfl
     · obtain ⟨h2,c,h3,h4,h5⟩:=J.fresh g'' h1 j hj hlj mk' c' hdj
       have hne:(g'' j).n≠(g p).n:=by
        rw [h1 j hlj]
        exact J.apart j p hj (by omega) hlj hpl hjp _ _ _ _ hdj hdp
       refine ⟨h2,c,by rw [reg_turned_block hne];exact h3,fun h=>h4 (fun k hk hlk=>h k hk ?_),fun k hk hlk x y hkt=>h5 k hk ?_ x y hkt⟩
       · by_cases hki:k=i
         · subst hki;rw [hun] at hlk;cases hlk
         · rw [hlist k hki];exact hlk
       · have hki:k≠i:=fun e=>by subst e;rw [hd] at hkt;cases hkt;exact hjp rfl
         rw [hlist k hki] at hlk;exact hlk
   · intro j hj hl' ψ hdj
     have hji:j≠i:=fun e=>by subst e;rw [hd] at hdj;cases hdj
     exact (hper j ψ hj hdj).2.1 htb _ _ _ _ _ (J.facts j hj (by rw [hlist j hji] at hl';exact hl') ψ hdj) hb0 (hmap g)
  rcases hx with rfl | rfl
  · exact key
  · exact key
 case act =>
  obtain ⟨hw,htb,i0,hi0,hv⟩:=hOk
  rw [hwant,hw g,if_pos rfl]
  left
  unfold Oper.wp
  have hnl:¬i0<m:=fun h=>by have:=(hm2 i0 i hi0).2 h;rw [hun] at this;cases this
  have hi0l:i0<acts.length:=(List.getElem?_eq_some_iff.1 hi0).1
  have hmi:m=i0:=by
   rcases Nat.eq_zero_or_pos i0 with h | h
   · omega
   · obtain ⟨y,hy⟩:∃y,acts[i0-1]?=some y:=⟨acts[i0-1]'(by omega),by simp [show i0-1<acts.length by omega]⟩
     have h1:=hch (i0-1) y i hy (by rw [show i0-1+1=i0 by omega];exact hi0)
     have:=(hm2 (i0-1) y hy).1 (hanc y h1)
     omega
  subst hmi
  have hfr:RegFr ops B (regSt l d s0 i).fs i g w:=by
   intro p hp hanc'
   have hnt:∀k p x y,k<n→d k≠.turn p x y:=fun k p x y hk hkt=>by
    obtain ⟨ok,hok2⟩:=hget k hk
    have:=hok k ok hk hok2
    rw [hkt] at this
    have:=this.2.1
    rw [htb] at this;cases this
   obtain ⟨h1,⟨mk,h2⟩,-⟩:=regSt_fs (l:=l) (d:=d) (s0:=s0) hfs0 i (fun k p x y hk hkt=>absurd hkt (hnt k p x y (by omega))) p hp
   have hlp:=hanc _ hanc'
   obtain ⟨h3,c,h4,h5,-⟩:=J.fresh g (fun _ _=>rfl) p.1 (by omega) hlp mk p.2 h2
   exact ⟨by rw [h4,h5 (fun k hk _ x y hkt=>hnt k _ x y hk hkt)],h3⟩
  obtain ⟨x,v,w',hrun,hx,hA,hI1⟩:=hv g w hI0 (hpre g (fun _ _=>rfl)) hfr J.lo
  rw [hexec g (fun _ _=>rfl),hrun]
  have hgg:∀j,j≠i→(fun j=>if j=i then (⟨0,v⟩:Gh) else g j) j=g j:=fun j hj=>by simp [hj]
  have key:K (a.put o'.dst v) w':=by
   refine hK _ _ (fun j=>if j=i then ⟨0,v⟩ else g j) (J.put hn ho hlt hun hc hgg (fun g'' hg''=>by rw [hd];simp only [RegD.val];rw [hg'' i (getD_set_self hlt)];simp) (Nat.le_trans J.lo hA.1) ?_ ?_ (fun j _ _ _ _ _ _ mk' c' h=>by rw [hd] at h;cases h) ?_)
   · refine ⟨m+1,by omega,fun i' x hx=>?_,?_⟩
     · by_cases hxi:x=i
       · subst hxi
         have:i'=m:=(List.getElem?_inj (List.getElem?_eq_some_iff.1 hx).1 hnd).1 (hx.trans hi0.symm)
         subst this
         simp [getD_set_self hlt]
       · rw [hlist x hxi,hm2 i' x hx]
         have:i'≠m:=fun e=>by subst e;rw [hi0] at hx;cases hx;exact hxi rfl
         omega
     · rw [List.take_add_one,hi0,List.map_append]
       have hne:∀x∈acts.take m,x≠i:=fun x hx e=>by
        subst e
        obtain ⟨q,hq⟩:=List.mem_iff_getElem?.1 hx
        have hqm:=(List.getElem?_eq_some_iff.1 hq).1
        rw [List.length_take] at hqm
        rw [List.getElem?_take] at hq
        rw [if_pos (by omega)] at hq
        have:=(List.getElem?_inj (List.getElem?_eq_some_iff.1 hq).1 hnd).1 (hq.trans hi0.symm)
        omega
       rw [List.map_congr_left (g:=fun x=>(g x).v) (fun x hx=>by rw [if_neg (hne x hx)])]
       simpa using hI1
   · intro g'' hg'' j hj hl' mk' c' hdj
     have h1:=hag _ g'' hgg hg''
     have hji:j≠i:=fun e=>by subst e;rw [hd] at hdj;cases hdj
     obtain ⟨h2,c,h3,h4,h5⟩:=J.fresh g'' h1 j hj (by rw [hlist j hji] at hl';exact hl') mk' c' hdj
     refine ⟨h2,c,by rw [hA.2 _ h2 (Array.getElem?_eq_some_iff.1 h3).1];exact h3,fun h=>h4 (fun k hk hlk=>h k hk ?_),fun k hk hlk x y hkt=>h5 k hk ?_ x y hkt⟩
     · by_cases hki:k=i
       · subst hki;rw [hun] at hlk;cases hlk
       · rw [hlist k hki];exact hlk
     · have hki:k≠i:=fun e=>by subst e;rw [hd] at hkt;cases hkt
       rw [hlist k hki] at hlk;exact hlk
   · intro j hj hl' ψ hdj
     have hji:j≠i:=fun e=>by subst e;rw [hd] at hdj;cases hdj
     simp only [hji,if_false]
     exact (hper j ψ hj hdj).2.2 (fun e=>by rw [e] at hi0;simp at hi0) _ _ _ (J.facts j hj (by rw [hlist j hji] at hl';exact hl') ψ hdj) hA
  rcases hx with rfl | ⟨rfl,rfl⟩
  · exact key
  · exact key
end

section
variable {P : Program} {ops : Array Oper} {n : Nat} {I : List Value → World → Prop} {acts : List Nat} {B : Nat} {tb : Bool} {a0 : Act} {d : Nat → RegD}
theorem reg_any {Q:Exit→Act→World→Prop} {l:List Oper} {s0:RegSt} {m:Nat} (hns:n≤ops.size) (hnosel:Region.noSelect ops=true) (htail:n=ops.size∨Region.sinkB .any ops n=true∧Region.chainB .any ops n=true) (hl:∀j,j<n→l[j]?=ops[j]?)
 (hs0:s0=⟨fun _=>a0,[],[],[]⟩)
 (hc:∀i o,i<n→ops[i]?=some o→CalmCond ops n i o) (hok:∀j o,j<n→ops[j]?=some o→RegOk P ops I acts B tb j o (regSt l d s0 j) (d j)) (hacts:∀j,j<n→(d j).acts=acts.elem j) (hIE:∀vs w w',I vs w→Ext w w'→I vs w') (hIT:tb=true→∀vs w b o,I vs w→B≤b→I vs (ChangeMaps.setBlock w b o))
 (hndA:acts.Nodup) (hch:∀i x y,acts[i]?=some x→acts[i+1]?=some y→Anc ops x y)
 (hfin:∀a w g,RegJ I acts B ops n a0 d (headListed ops.size n) a w g→wpAny P .any ops Q m (headListed ops.size n) a w) :
 ∀ (f:Nat) (rem:List Nat) (listed:Array Bool) (a:Act) (w:World) (g:Ghs),rem.length=f→rem.Nodup→(∀i,i∈rem↔i<n∧listed.getD i false=false)→HeadInv .any ops n listed →
   RegJ I acts B ops n a0 d listed a w g→wpAny P .any ops Q (f+m) listed a w
 | 0, rem,listed,a,w,g,hf,_,hrem,inv,J=>by
   have hr0:rem=[]:=List.length_eq_zero_iff.1 hf
   subst hr0
   have : listed=headListed ops.size n:=by
    apply Array.ext_getElem?
    intro i
    rcases Nat.lt_or_ge i ops.size with h | h
    · have h1:i<listed.size:=by rw [inv.size];exact h
      have e2:(headListed ops.size n)[i]?=some (decide (i<n)):=by simp [headListed,h]
      rw [e2]
      by_cases hin:i<n
      · have:=(hrem i)
        simp only [List.not_mem_nil,false_iff,not_and] at this
        have h2:=this hin
        simp [h1] at h2 ⊢
        simp [h2,hin]
      · have h2:=inv.tail i (by omega) h
        simp [h1] at h2 ⊢
        simp [h2,hin]
    · have h1:listed.size≤i:=by rw [inv.size];exact h
      simp [headListed,h1,h]
   subst this
   rw [Nat.zero_add]
   exact hfin a w g J
 | f + 1, rem,listed,a,w,g,hf,hnd,hrem,inv,J=>by
   obtain ⟨i0,hi0⟩:∃i,i∈rem:=by
    cases rem with
    | nil=>cases hf
    | cons x r=>exact ⟨x,by simp⟩
   have hready:∀j,j∈Region.ready .any ops listed→j<n:=by
    intro j hj
    rcases Nat.lt_or_ge j n with h | h
    · exact h
    · obtain ⟨h1,h2⟩:=(hrem i0).1 hi0
      rcases htail with ht | ⟨hs,hch⟩
      · obtain ⟨_,o,ho,_⟩:=mem_ready.1 hj
        have:=(Array.getElem?_eq_some_iff.1 ho).1
        omega
      · have hnlt:n<ops.size:=by
         obtain ⟨_,o,ho,_⟩:=mem_ready.1 hj
         have:=(Array.getElem?_eq_some_iff.1 ho).1
         omega
        exact absurd hj (tail_waits hs hch hnlt inv _ i0 rfl h1 (getD_in (by rw [inv.size];omega) h2) j h)
   have hne:Region.ready .any ops listed≠[]:=by
    -- the least operation of the head that is left is ready
    have hmin:∀(d i:Nat),i=d→i∈rem→∃j,j∈Region.ready .any ops listed:=by
     intro d
     induction d using Nat.strongRecOn with
     | _ d ih =>
       intro i hd hi
       obtain ⟨h1,h2⟩:=(hrem i).1 hi
       obtain ⟨o,ho⟩:∃o,ops[i]?=some o:=⟨ops[i]'(by omega),by simp [show i<ops.size by omega]⟩
       by_cases hall:∀e∈o.after,Region.binds .any e=true→listed.getD e.on false=true
       · exact ⟨i,mem_ready.2 ⟨getD_in (by rw [inv.size];omega) h2,o,ho,hall⟩⟩
       · obtain ⟨e,he,hb,hne⟩:∃e,e∈o.after∧Region.binds .any e=true∧¬listed.getD e.on false=true:=by
          apply Classical.byContradiction
          intro hno
          exact hall fun e he hb=>Classical.byContradiction fun hx=>hno ⟨e,he,hb,hx⟩
         have hlt:=(hc i o h1 ho).before e he hb
         exact ih e.on (by omega) e.on rfl ((hrem e.on).2 ⟨by omega,by simpa using hne⟩)
    obtain ⟨j,hj⟩:=hmin i0 i0 rfl hi0
    intro h0;rw [h0] at hj;cases hj
   rw [show f+1+m=(f+m)+1 by omega]
   refine ⟨fun h0=>absurd h0 hne,fun i hi=>?_⟩
   have hin:=hready i hi
   obtain ⟨hun,o,ho,_⟩:=mem_ready.1 hi
   have hsz:i<listed.size:=by rw [inv.size];exact (Array.getElem?_eq_some_iff.1 ho).1
   refine J.step hs0 hin ho hsz hi hns (fun cs b=>Region.noSelect_spec hnosel i o cs b ho) hl inv.closed hc hok hacts hIE hIT hndA hch (fun a' w' g' J'=>?_)
   have hmem:i∈rem:=(hrem i).2 ⟨hin,getD_both hun⟩
   refine reg_any hns hnosel htail hl hs0 hc hok hacts hIE hIT hndA hch hfin f (rem.erase i) _ a' w' g' (by rw [List.length_erase_of_mem hmem];omega) (hnd.erase i) (fun j=>?_) (inv.set hi hin) J'
   rw [hnd.mem_erase_iff,hrem]
   by_cases hji:j=i
   · subst hji
     simp [hsz]
   · rw [getD_set_ne false (Ne.symm hji)]
     simp [hji]
end

/-- A REGION THAT DRAWS ITS ORDER: one walk in the order of the text. -/
theorem wp_region_act {P:Program} {id:Nat} {Q:Exit→Act→World→Prop} {a:Act} {w:World} {l:List Oper} (n:Nat) (tb:Bool) (I:List Value→World→Prop) (acts:List Nat) (hm:P.follows .mixedOrders=true) (hB:calmB l.toArray n=true)
 (hIE:∀vs w w',I vs w→Ext w w'→I vs w') (hIT:tb=true→∀vs w' b o,I vs w'→w.heap.size≤b→I vs (ChangeMaps.setBlock w' b o)) (hndA:acts.Nodup) (hlt:∀x∈acts,x<n) (hch:∀i x y,acts[i]?=some x→acts[i+1]?=some y→Anc l.toArray x y) (hI0:I [] w)
 (h:wpReg P l.toArray I acts w.heap.size tb (fun s=>∀g w',I (acts.map fun x=>(g x).v) w'→RegFresh w.heap.size (s.fs++s.ts) g w'→(∀p∈s.ps,p.2 (g p.1).v w')→wpList P l.toArray Q (l.drop n) (s.A g) w') 0 (l.take n) ⟨fun _=>a,[],[],[]⟩):(Code.region id l.toArray true).wp P Q a w:=by
 have hc:=calmB_cond hB
 simp only [calmB,Bool.and_eq_true,decide_eq_true_eq,Bool.or_eq_true] at hB
 obtain ⟨⟨⟨⟨hnosel,hns⟩,htail⟩,hseq⟩,-⟩:=hB
 have hns':n≤l.length:=by simpa using hns
 have hlen:(l.take n).length=n:=by simp;omega
 have hl:∀j,j<n→(l.take n)[j]?=l.toArray[j]?:=fun j hj=>by simp [hj]
 obtain ⟨d,hok,hQ⟩:=reg_specs (l.take n) ⟨fun _=>a,[],[],[]⟩ (l.take n) 0 (fun _=>.skip) (fun j=>by simp) (fun i o hi=>by omega) h
 rw [Nat.zero_add,hlen] at hQ
 rw [Nat.zero_add,hlen] at hok
 have hok':∀j o,j<n→l.toArray[j]?=some o→RegOk P l.toArray I acts w.heap.size tb j o (regSt (l.take n) d ⟨fun _=>a,[],[],[]⟩ j) (d j):=fun j o hj ho=>(hok j o hj (by rw [hl j hj];exact ho)).1
 have hacts:∀j,j<n→(d j).acts=acts.elem j:=fun j hj=>(hok j (l[j]'(by omega)) hj (by rw [List.getElem?_take,if_pos hj];exact List.getElem?_eq_getElem (by omega))).2
 have hget:∀j,j<n→∃oj,l.toArray[j]?=some oj:=fun j hj=>⟨l[j]'(by omega),by simp [show j<l.length by omega]⟩
 have gen : ∀ m, ∀ q∈(regSt (l.take n) d ⟨fun _=>a,[],[],[]⟩ m).fs,q.1<m:=by
  intro m
  induction m with
  | zero=>intro q hq;simp [regSt] at hq
  | succ m ih =>
    intro q hq
    simp only [regSt,RegSt.next] at hq
    cases hdm:d m<;>rw [hdm] at hq<;>simp only [List.mem_cons,List.mem_filter] at hq
    case fresh => rcases hq with rfl | hq
                  · simp
                  · have:=ih q hq;omega
    case turn=>have:=ih q hq.1;omega
    all_goals (have:=ih q hq;omega)
 have hin:∀k p b b',k<n→d k=.turn p b b'→(p,b)∈(regSt (l.take n) d ⟨fun _=>a,[],[],[]⟩ k).fs:=fun k p x y hk hkt=>by
  obtain ⟨ok,hok2⟩:=hget k hk
  have:=hok' k ok hk hok2
  rw [hkt] at this
  exact this.2.2.1
 have hturn:∀k p b b',k<n→d k=.turn p b b'→p<k:=fun k p x y hk hkt=>gen k _ (hin k p x y hk hkt)
 refine wp_region_any hm ?_
 have key := reg_any (P:=P) (ops:=l.toArray) (I:=I) (acts:=acts) (B:=w.heap.size) (tb:=tb) (a0:=a) (d:=d) (Q:=Q) (l:=l.take n) (s0:=⟨fun _=>a,[],[],[]⟩) (m:=l.toArray.size-n) hns hnosel htail hl rfl hc hok' hacts hIE hIT hndA hch
  (fun a' w' g J=>by
    have hfr:a'=(regSt (l.take n) d ⟨fun _=>a,[],[],[]⟩ n).A g:=by
     have h1:a'.defers=((regSt (l.take n) d ⟨fun _=>a,[],[],[]⟩ n).A g).defers:=by rw [J.defers,regA_defers (fun _=>rfl)]
     have hall:∀i,i<n→(headListed l.toArray.size n).getD i false=true:=fun i hi=>by
      have:i<l.length:=by omega
      simp [headListed,hi,this]
     have h2:a'.tmps=((regSt (l.take n) d ⟨fun _=>a,[],[],[]⟩ n).A g).tmps:=by
      apply Array.ext_getElem?
      intro t
      by_cases hex:∃j,j<n∧(l.toArray[j]?).bind (·.dst)=some t
      · obtain ⟨j,hj,hjt⟩:=hex
        rw [J.at_ g (fun _ _=>rfl) j hj (hall j hj) t hjt,regA_at (fun _=>rfl) (by rw [hl j hj];exact hjt) hj (fun k hk hkj=>?_)]
        rw [hl k hk]
        intro hkt
        rcases Nat.lt_or_ge k j with h | h
        · cases hoj:l.toArray[j]? with
          | none=>rw [hoj] at hjt;cases hjt
          | some oj=>rw [hoj] at hjt;exact (hc j oj hj hoj).once k h t hjt hkt
        · cases hok2:l.toArray[k]? with
          | none=>rw [hok2] at hkt;cases hkt
          | some ok=>rw [hok2] at hkt;exact (hc k ok hk hok2).once j (by omega) t hkt hjt
      · rw [J.other t (fun j hj _ hjt=>hex ⟨j,hj,hjt⟩),regA_other (fun _=>rfl) (fun j hj hjt=>hex ⟨j,hj,by rw [←hl j hj];exact hjt⟩)]
     cases a';cases hF:(regSt (l.take n) d ⟨fun _=>a,[],[],[]⟩ n).A g
     rw [hF] at h1 h2
     simp only at h1 h2
     rw [h1,h2]
    have hall:∀i,i<n→(headListed l.toArray.size n).getD i false=true:=fun i hi=>by
     have:i<l.length:=by omega
     simp [headListed,hi,this]
    have hfs:=regSt_fs (l:=l.take n) (d:=d) (s0:=⟨fun _=>a,[],[],[]⟩) rfl n hturn
    have hts:=regSt_ts (l:=l.take n) (d:=d) (s0:=⟨fun _=>a,[],[],[]⟩) rfl n
    have hps:=regSt_ps (l:=l.take n) (d:=d) (s0:=⟨fun _=>a,[],[],[]⟩) rfl n
    have hnd:=regSt_nodup (l:=l.take n) (d:=d) (s0:=⟨fun _=>a,[],[],[]⟩) rfl rfl n hin hturn
    have hmk:∀p∈(regSt (l.take n) d ⟨fun _=>a,[],[],[]⟩ n).fs++(regSt (l.take n) d ⟨fun _=>a,[],[],[]⟩ n).ts,p.1<n∧(∃mk b,d p.1=.fresh mk b)∧w'.heap[(g p.1).n]?=some (p.2 g)∧w.heap.size≤(g p.1).n:=by
     intro p hp
     rcases List.mem_append.1 hp with hp | hp
     · obtain ⟨h1,⟨mk,h2⟩,h3⟩:=hfs p hp
       obtain ⟨h4,c,h5,h6,-⟩:=J.fresh g (fun _ _=>rfl) p.1 h1 (hall _ h1) mk p.2 h2
       exact ⟨h1,⟨mk,_,h2⟩,by rw [h5,h6 (fun k hk _ x y=>h3 k hk x y)],h4⟩
     · obtain ⟨k,b,hk,hkt⟩:=hts p hp
       have hpk:=hturn k _ _ _ hk hkt
       obtain ⟨-,⟨mk,h2⟩,-⟩:=regSt_fs (l:=l.take n) (d:=d) (s0:=⟨fun _=>a,[],[],[]⟩) rfl k (fun k' p x y hk'=>hturn k' p x y (by omega)) (p.1,b) (hin k _ _ _ hk hkt)
       obtain ⟨h4,c,h5,-,h6⟩:=J.fresh g (fun _ _=>rfl) p.1 (by omega) (hall _ (by omega)) mk b h2
       exact ⟨by omega,⟨mk,_,h2⟩,by rw [h5,h6 k hk (hall k hk) _ _ hkt],h4⟩
    have hfresh:RegFresh w.heap.size ((regSt (l.take n) d ⟨fun _=>a,[],[],[]⟩ n).fs++(regSt (l.take n) d ⟨fun _=>a,[],[],[]⟩ n).ts) g w':=by
     refine ⟨J.lo,fun p hp=>(hmk p hp).2.2,?_⟩
     unfold List.Nodup at hnd
     rw [List.pairwise_map] at hnd
     refine hnd.imp_of_mem (fun {p q} hp hq hpq=>?_)
     obtain ⟨h1,⟨mk,b,h2⟩,-⟩:=hmk p hp
     obtain ⟨h3,⟨mk',b',h4⟩,-⟩:=hmk q hq
     exact J.apart _ _ h1 h3 (hall _ h1) (hall _ h3) hpq _ _ _ _ h2 h4
    have hfacts:∀p∈(regSt (l.take n) d ⟨fun _=>a,[],[],[]⟩ n).ps,p.2 (g p.1).v w':=fun p hp=>by
     obtain ⟨h1,h2⟩:=hps p hp
     exact J.facts _ h1 (hall _ h1) _ h2
    have hIf:I (acts.map fun x=>(g x).v) w':=by
     obtain ⟨m,h1,h2,h3⟩:=J.inv
     have:m=acts.length:=by
      rcases Nat.lt_or_ge m acts.length with h | h
      · have:=(h2 m acts[m] (by simp [h])).1 (hall _ (hlt _ (List.getElem_mem h)))
        omega
      · omega
     subst this
     rwa [List.take_length] at h3
    have hw:=hQ g w' hIf hfresh hfacts
    rw [←hfr] at hw
    have hdl:(l.drop n).length=l.toArray.size-n:=by simp
    rw [←hdl] at hseq ⊢
    exact wpAny_of_seq (l.drop n) n _ _ _ (fun j=>by simp) hseq hw)
  n (List.range n) (Array.replicate l.toArray.size false) a w.drew (fun _=>default) (by simp) List.nodup_range (fun i=>by rw [getD_replicate_false];simp)
  ⟨by simp,fun j oj _ hl=>(by rw [getD_replicate_false] at hl;cases hl),fun t _ ht=>getD_in (by simpa using ht) (getD_replicate_false _ _)⟩
  ⟨Nat.le_refl _,⟨0,Nat.zero_le _,fun i x hx=>by rw [getD_replicate_false];simp,by simpa using hIE _ _ _ hI0 (Ext.drew w)⟩,rfl,fun _ _ i _ hl=>(by rw [getD_replicate_false] at hl;cases hl),fun _ _=>rfl,fun _ _ i _ hl=>(by rw [getD_replicate_false] at hl;cases hl),fun i _ _ _ hl=>(by rw [getD_replicate_false] at hl;cases hl),fun i _ hl=>(by rw [getD_replicate_false] at hl;cases hl)⟩
 rw [show n+(l.toArray.size-n)=l.toArray.size by omega] at key
 exact key

theorem wp_region_reg {P:Program} {id:Nat} {Q:Exit→Act→World→Prop} {a:Act} {w:World} {l:List Oper} (n:Nat) (tb:Bool) (hm:P.follows .mixedOrders=true) (hB:calmB l.toArray n=true)
 (h:wpReg P l.toArray (fun _ w'=>Ext w w') [] w.heap.size tb (fun s=>∀g w',Ext w w'→RegFresh w.heap.size (s.fs++s.ts) g w'→(∀p∈s.ps,p.2 (g p.1).v w')→wpList P l.toArray Q (l.drop n) (s.A g) w') 0 (l.take n) ⟨fun _=>a,[],[],[]⟩):(Code.region id l.toArray true).wp P Q a w :=
 wp_region_act n tb (fun _ w'=>Ext w w') [] hm hB (fun _ _ _ h k=>h.trans k) (fun _ _ _ _ _ h hb=>reg_turned_ext h hb) (by simp) (by simp) (by simp) (Ext.refl w) h

end Go.Proofs.YtclijngnoepbiaaGreat

namespace Go.Proofs.YtclijngnoepbiaaGreat
open Go Go.RowKit
open Go.Maps (Keyed)
set_option linter.unusedVariables false
set_option linter.unusedSimpArgs false

/-- block b of w is a map of at most n entries; what it holds at the key enc x is F x -/
def MapK {K:Type} (enc:K→Value) (w:World) (b n:Nat) (F:K→Option Value):Prop :=
 ∃ (es:Array MapEntry) (clock:Nat),w.heap[b]?=some (.map es clock)∧es.size≤n∧(∀(i:Nat) (e:MapEntry),es[i]?=some e→∃x,e.key=enc x) ∧
   (∀(i j:Nat) (e e':MapEntry),es[i]?=some e→es[j]?=some e'→e.key=e'.key→i=j) ∧
   ∀x,(F x=none∧∀(i:Nat) (e:MapEntry),es[i]?=some e→e.key≠enc x)∨∃(i:Nat) (e:MapEntry),es[i]?=some e∧e.key=enc x∧F x=some e.val

section
variable {K : Type} {enc : K → Value} {w : World} {b n : Nat} {F : K → Option Value}

theorem MapK.same {w':World} (h:MapK enc w b n F) (hb:w'.heap[b]?=w.heap[b]?):MapK enc w' b n F:=by
 obtain ⟨es,clock,h1,h2⟩:=h
 exact ⟨es,clock,hb.trans h1,h2⟩
theorem MapK.lt (h:MapK enc w b n F):b<w.heap.size:=by
 obtain ⟨es,clock,h1,-⟩:=h
 exact (Array.getElem?_eq_some_iff.1 h1).1
theorem MapK.ext {w':World} (h:MapK enc w b n F) (hE:Ext w w'):MapK enc w' b n F:=h.same (hE.block h.lt)
theorem MapK.al (h:MapK enc w b n F) (o:Obj):MapK enc (w.alloc o) b n F:=h.ext (Ext.alloc w o)
theorem MapK.mono {n':Nat} (h:MapK enc w b n F) (hn:n≤n'):MapK enc w b n' F:=by
 obtain ⟨es,clock,h1,h2,h3⟩:=h
 exact ⟨es,clock,h1,Nat.le_trans h2 hn,h3⟩
variable {P : Program} {k : TypeId}

theorem MapK.find (h : MapK enc w b n F) (L:Keyed P k) (hk:∀x,∃l,keyOf P k (enc x)=some l) (x:K) :
 ∃ es clock,w.heap[b]?=some (.map es clock)∧(((Instr.findKey k (enc x) es.toList).run P w=.ok none w∧F x=none∧∀(i:Nat) (e:MapEntry),es[i]?=some e→e.key≠enc x) ∨
   ∃(i:Nat) (e:MapEntry),(Instr.findKey k (enc x) es.toList).run P w=.ok (some (i,e.val)) w∧es[i]?=some e∧e.key=enc x∧F x=some e.val):=by
 obtain ⟨es,clock,h1,h2,h3,h4,h5⟩:=h
 refine ⟨es,clock,h1,?_⟩
 obtain ⟨l,hl⟩:=hk x
 rcases L.find w hl es.toList (fun e he=>by
  obtain ⟨i,hi⟩:=List.mem_iff_getElem?.1 he
  obtain ⟨y,hy⟩:=h3 i e (by simpa using hi)
  rw [hy];exact hk y) with ⟨hf,hno⟩ | ⟨j,e,hf,hj,he⟩
 · left
   refine ⟨hf, ?_, fun i e hi => hno e (by have:es.toList[i]?=some e:=by simpa using hi
                                           exact List.mem_of_getElem? this)⟩
   rcases h5 x with ⟨h6,-⟩ | ⟨i,e,hi,he,-⟩
   · exact h6
   · exact absurd he (hno e (by have:es.toList[i]?=some e:=by simpa using hi
                                exact List.mem_of_getElem? this))
 · right
   have hj':es[j]?=some e:=by simpa using hj
   refine ⟨j,e,hf,hj',he,?_⟩
   rcases h5 x with ⟨-,h6⟩ | ⟨i,e',hi,he',hF⟩
   · exact absurd he (h6 j e hj')
   · have:=h4 i j e' e hi hj' (he'.trans he.symm)
     subst this
     rw [hj'] at hi
     cases hi
     exact hF

end

end Go.Proofs.YtclijngnoepbiaaGreat

namespace Go.Proofs.YtclijngnoepbiaaGreat
open Go Go.RowKit
open Go.Maps (Keyed)
set_option linter.unusedVariables false
set_option linter.unusedSimpArgs false

theorem ownsRow_same {w w':World} {base size n:Nat} {e:TypeId} {v:Value} {xs:List Value} (h:w.ownsRow base e size v n xs) (hb:∀g,v.ownBlock=some g→w'.heap[g]?=w.heap[g]?):w'.ownsRow base e size v n xs:=by
 refine ⟨h.1,?_⟩
 rcases h.2 with h | ⟨g,cap,cur,rfl,h1,h2,h3⟩
 · exact .inl h
 · exact .inr ⟨g,cap,cur,rfl,h1,by rw [hb g rfl];exact h2,h3⟩
theorem ownsRow_ext {w w':World} {base size n:Nat} {e:TypeId} {v:Value} {xs:List Value} (h:w.ownsRow base e size v n xs) (hE:Ext w w'):w'.ownsRow base e size v n xs :=
 ownsRow_same h fun g hg=>hE.block (h.lt g hg).2
theorem Ext.grown {w w' w'':World} {row:Option Nat} (h:Ext w w') (hg:w'.grownBy w'' row) (hrow:∀k,row=some k→w.heap.size≤k):Ext w w'' :=
 ⟨hg.os.trans h.os,hg.tape.trans h.tape,hg.output.trans h.output,Nat.le_trans h.size hg.size,
  fun i hi=>(hg.block i (Nat.lt_of_lt_of_le hi h.size) (fun e=>by have:=hrow i e.symm;omega)).trans (Ext.block h hi)⟩

section
variable {K : Type} {enc : K → Value} {w : World} {b n : Nat} {F : K → Option Value} {P : Program} {ops : Array Oper} {rest : List Oper} {o : Oper} {a : Act} {Q : Exit → Act → World → Prop} {k : TypeId}

end

/-- lists of values, n cells each -/
theorem flatN_get {α:Type} {n:Nat} {f:α→List Value} (hf:∀x,(f x).length=n):∀(L:List α) (k j:Nat) (x:α),L[k]?=some x→j<n→(L.flatMap f)[k*n+j]?=(f x)[j]?
 | [],k,j,x,h,_=>by simp at h
 | y :: L,0,j,x,h,hj=>by
   simp only [List.getElem?_cons_zero,Option.some.injEq] at h
   subst h
   rw [List.flatMap_cons,List.getElem?_append_left (by rw [hf];omega)]
   simp
 | y :: L,k+1,j,x,h,hj=>by
   simp only [List.getElem?_cons_succ] at h
   have e:(k+1)*n+j=n+(k*n+j):=by rw [Nat.add_mul];omega
   rw [List.flatMap_cons,List.getElem?_append_right (by rw [hf,e];omega),hf,e,show n+(k*n+j)-n=k*n+j by omega]
   exact flatN_get hf L k j x h hj
theorem rowN_at {w:World} {base e n:Nat} {v:Value} {α:Type} {f:α→List Value} (hf:∀x,(f x).length=n) {L:List α} {k:Nat} {x:α} (h:w.ownsRow base e n v L.length (L.flatMap f)) (hk:L[k]?=some x) :
 ∃g cap,v=.slice (some ⟨g,0,none⟩) L.length cap∧L.length≤cap∧base≤g∧g<w.heap.size∧∀j u,(f x)[j]?=some u→w.cell? ⟨g,k*n+j,none⟩=some u:=by
 have hlt:=(List.getElem?_eq_some_iff.1 hk).1
 rcases h.2 with ⟨-,h0⟩ | ⟨g,cap,cur,rfl,h1,h2,h3,-⟩
 · omega
 · refine ⟨g,cap,rfl,h3,h1,(Array.getElem?_eq_some_iff.1 h2).1,fun j u hu=>?_⟩
   have hj:j<n:=by have:=(List.getElem?_eq_some_iff.1 hu).1;rw [hf] at this;exact this
   have h0:=h.cells (g:=g) rfl (k*n+j) u (by rw [flatN_get hf L k j x hk hj];exact hu)
   by_cases hk0:k*n+j=0
   · rw [hk0] at h0 ⊢
     simpa [Addr.add] using h0
   · rw [Addr.add,if_neg hk0,Nat.zero_add] at h0
     exact h0

theorem row2_slice {w:World} {base e n size:Nat} {v:Value} {xs:List Value} (h:w.ownsRow base e size v n xs) (hn:0<n):∃g cap,v=.slice (some ⟨g,0,none⟩) n cap∧n≤cap∧cap≤maxLen∧base≤g∧g<w.heap.size:=by
 rcases h.2 with ⟨-,h0⟩ | ⟨g,cap,cur,rfl,h1,h2,h3,h4,-⟩
 · omega
 · exact ⟨g,cap,rfl,h3,h4,h1,(Array.getElem?_eq_some_iff.1 h2).1⟩

section
open Go.Sort Go.Proofs
variable {α : Type} {enc : α → List Value} {k : Nat}

theorem flatE_len (hk:∀x,(enc x).length=k):∀L:List α,(L.flatMap enc).length=L.length*k
 | []=>by simp
 | x :: L=>by rw [List.flatMap_cons,List.length_append,hk,flatE_len hk L,List.length_cons,Nat.add_mul];omega
theorem flatE_get (hk:∀x,(enc x).length=k):∀(L:List α) (m j:Nat) (x:α),L[m]?=some x→j<k→(L.flatMap enc)[m*k+j]?=(enc x)[j]?
 | [],m,j,x,h,_=>by simp at h
 | y :: L,0,j,x,h,hj=>by
   simp only [List.getElem?_cons_zero,Option.some.injEq] at h
   subst h
   rw [List.flatMap_cons,List.getElem?_append_left (by rw [hk];omega)]
   simp
 | y :: L,m+1,j,x,h,hj=>by
   simp only [List.getElem?_cons_succ] at h
   have e:(m+1)*k+j=k+(m*k+j):=by rw [Nat.add_mul];omega
   rw [List.flatMap_cons,List.getElem?_append_right (by rw [hk,e];omega),hk,e,show k+(m*k+j)-k=m*k+j by omega]
   exact flatE_get hk L m j x h hj
variable [Inhabited α]
theorem flatK_list (hk:∀x,(enc x).length=k) (d:Array α):(flatK enc k d).toList=d.toList.flatMap enc:=by
 rcases Nat.eq_zero_or_pos k with h0 | h0
 · subst h0
   have e1:(flatK enc 0 d).toList.length=0:=by simp
   have e2:(d.toList.flatMap enc).length=0:=by rw [flatE_len hk];simp
   rw [List.length_eq_zero_iff.1 e1,List.length_eq_zero_iff.1 e2]
 · apply List.ext_getElem?
   intro t
   have hl:(d.toList.flatMap enc).length=d.size*k:=by rw [flatE_len hk,Array.length_toList]
   by_cases ht:t<d.size*k
   · have hm:t / k<d.size:=(Nat.div_lt_iff_lt_mul h0).2 ht
     have hr:t % k<k:=Nat.mod_lt _ h0
     have hx:d.toList[t / k]?=some d[t / k]!:=by rw [Array.getElem?_toList,getElem!_pos d (t / k) hm];exact Array.getElem?_eq_getElem hm
     have e:=flatE_get hk d.toList (t / k) (t % k) _ hx hr
     rw [show t / k*k+t % k=t by rw [Nat.mul_comm];exact Nat.div_add_mod t k] at e
     rw [e,Array.getElem?_toList,Array.getElem?_eq_getElem (by simpa using ht),List.getElem?_eq_getElem (by rw [hk];exact hr)]
     have g:=get_flatK enc k d t ht
     rw [getElem!_pos (flatK enc k d) t (by simpa using ht),getElem!_pos (enc d[t / k]!) (t % k) (by rw [hk];exact hr)] at g
     rw [g]
   · rw [List.getElem?_eq_none (by simp;omega),List.getElem?_eq_none (by omega)]

theorem onw_holds {w:World} {base e n cap g:Nat} {L:List α} (hk:∀x,(enc x).length=k) (hO:w.ownsRow base e k (.slice (some ⟨g,0,none⟩) n cap) n (L.flatMap enc)) (hl:L.length=n) :
 HoldsK enc k w g 0 L.toArray∧g<w.heap.size∧base≤g∧∀m (d':Array α) os,d'.size=n→(sortWorldK enc k w g 0 m d' os).ownsRow base e k (.slice (some ⟨g,0,none⟩) n cap) n (d'.toList.flatMap enc)∧w.grownBy (sortWorldK enc k w g 0 m d' os) (some g):=by
 rcases hO.2 with ⟨h,-⟩ | ⟨g',cap',cur,hv,hb,hblk,hn,hc,hsz,htk⟩
 · cases h
 · cases hv
   have hlt:=(Array.getElem?_eq_some_iff.1 hblk).1
   have hnk:n*k≤cur.size:=by rw [hsz];exact Nat.mul_le_mul_right k hn
   refine ⟨fun j hj=>?_,hlt,hb,fun m d' os hd=>?_⟩
   · rw [size_flatK,List.size_toArray,hl] at hj
     constructor
     · have e1:w.cell? ⟨g,0+j,none⟩=cur[j]?:=by simp [World.cell?,hblk]
       have e2:(flatK enc k L.toArray).toList=L.flatMap enc:=flatK_list hk L.toArray
       have hjs:j<(flatK enc k L.toArray).size:=by rw [size_flatK,List.size_toArray,hl];exact hj
       rw [e1,getElem!_pos (flatK enc k L.toArray) j hjs]
       have e3:(flatK enc k L.toArray).toList[j]?=some ((flatK enc k L.toArray)[j]'hjs):=by rw [Array.getElem?_toList];exact Array.getElem?_eq_getElem _
       rw [e2,←htk,List.getElem?_take_of_lt hj,Array.getElem?_toList] at e3
       exact e3
     · unfold World.frozen?
       simp only [hblk]
       simp
   · have hh:(sortWorldK enc k w g 0 m d' os).heap=w.heap.modify g (onCells (putCells id 0 (flatK enc k d')))++os:=rfl
     have hfs:(flatK enc k d').size=n*k:=by rw [size_flatK,hd]
     constructor
     · refine ⟨by rw [flatE_len hk,Array.length_toList,hd],.inr ⟨g,cap,putCells id 0 (flatK enc k d') cur,rfl,hb,?_,hn,hc,?_,?_⟩⟩
       · rw [hh,Array.getElem?_append_left (by simpa using hlt),Array.getElem?_modify,if_pos rfl,hblk]
         rfl
       · unfold putCells;rw [Array.size_mapIdx];exact hsz
       · rw [←flatK_list hk d']
         apply List.ext_getElem?
         intro t
         by_cases ht:t<n*k
         · rw [List.getElem?_take_of_lt ht,Array.getElem?_toList,Array.getElem?_toList]
           unfold putCells
           rw [Array.getElem?_mapIdx,Array.getElem?_eq_getElem (show t<cur.size by omega),Array.getElem?_eq_getElem (show t<(flatK enc k d').size by omega)]
           simp only [Option.map_some]
           rw [if_pos ⟨Nat.zero_le _,by omega⟩,Nat.sub_zero,getElem!_pos (flatK enc k d') t (by omega)]
           rfl
         · rw [List.getElem?_eq_none (by rw [List.length_take];omega),List.getElem?_eq_none (by rw [Array.length_toList];omega)]
     · refine ⟨rfl,rfl,rfl,?_,fun q hq hne=>?_⟩
       · rw [hh];simp
       · rw [hh,Array.getElem?_append_left (by simpa using hq),Array.getElem?_modify,if_neg (fun e=>hne (by rw [e]))]
end

end Go.Proofs.YtclijngnoepbiaaGreat

namespace Go.Proofs.YtclijngnoepbiaaGreat
open Go
set_option linter.unusedVariables false
set_option linter.unusedSimpArgs false

/-- a term -/
inductive Tm where
 | mk (kind:Int) (name:ByteArray) (sort:Int) (kids:List Tm)
namespace Tm
def kind:Tm→Int | .mk k _ _ _=>k
def name:Tm→ByteArray | .mk _ n _ _=>n
def sort:Tm→Int | .mk _ _ s _=>s
def kids:Tm→List Tm | .mk _ _ _ l=>l
end Tm
instance:Inhabited Tm:=⟨.mk 0 ⟨#[]⟩ 0 []⟩

mutual
def sizeT:Tm→Nat | .mk _ _ _ l=>1+sizeL l
def sizeL:List Tm→Nat | []=>0 | t :: l=>sizeT t+sizeL l
end
mutual
def depthT:Tm→Nat | .mk _ _ _ l=>depthL l+1
def depthL:List Tm→Nat | []=>0 | t :: l=>max (depthT t) (depthL l)
end

def sgn (a b:Int):Int:=if a<b then -1 else if b<a then 1 else 0
def nameC (a b:ByteArray):Int:=if Op.bytesLess a.toList b.toList then -1 else if Op.bytesLess b.toList a.toList then 1 else 0
/-- the first that is not zero -/
def orE (a b:Int):Int:=if a=0 then b else a
mutual
def cmpT:Tm→Tm→Int
 | .mk k n s l,.mk k' n' s' l'=>orE (sgn ((1+sizeL l:Nat):Int) ((1+sizeL l':Nat):Int)) (orE (sgn k k') (orE (nameC n n') (orE (sgn s s') (orE (sgn (l.length:Int) (l'.length:Int)) (cmpL l l')))))
def cmpL:List Tm→List Tm→Int
 | [],_=>0
 | _ :: _,[]=>0
 | a :: l,b :: m=>orE (cmpT a b) (cmpL l m)
end

theorem orE_zero {a b:Int}:orE a b=0↔a=0∧b=0:=by
 unfold orE
 split
 · simp [*]
 · rename_i h
   exact ⟨fun e=>absurd e h,fun e=>absurd e.1 h⟩
theorem sgn_zero {a b:Int}:sgn a b=0↔a=b:=by
 unfold sgn;split
 · omega
 · split<;>omega
theorem sgn_swap (a b:Int):sgn b a=- sgn a b:=by
 unfold sgn;(repeat' split)<;>omega

theorem bl_irrefl:∀l:List UInt8,Op.bytesLess l l=false
 | []=>rfl
 | a :: l=>by
   simp only [Op.bytesLess,bl_irrefl l]
   simp
theorem bl_asymm:∀l m:List UInt8,Op.bytesLess l m=true→Op.bytesLess m l=false
 | _,[],h=>by simp [Op.bytesLess] at h
 | [],b :: m,_=>by simp [Op.bytesLess]
 | a :: l,b :: m,h=>by
   simp only [Op.bytesLess,Bool.or_eq_true,decide_eq_true_eq,Bool.and_eq_true,beq_iff_eq] at h
   simp only [Op.bytesLess,Bool.or_eq_false_iff,decide_eq_false_iff_not,Bool.and_eq_false_imp,beq_iff_eq]
   rcases h with h | ⟨rfl,h⟩
   · exact ⟨fun h'=>absurd (UInt8.lt_trans h h') (UInt8.lt_irrefl _),fun e=>absurd h (by rw [e];exact UInt8.lt_irrefl _)⟩
   · exact ⟨UInt8.lt_irrefl _,fun _=>bl_asymm l m h⟩
theorem bl_total:∀l m:List UInt8,Op.bytesLess l m=false→Op.bytesLess m l=false→l=m
 | [],[],_,_=>rfl
 | [],b :: m,h,_=>by simp [Op.bytesLess] at h
 | a :: l,[],_,h=>by simp [Op.bytesLess] at h
 | a :: l,b :: m,h,h'=>by
   simp only [Op.bytesLess,Bool.or_eq_false_iff,decide_eq_false_iff_not,Bool.and_eq_false_imp,beq_iff_eq] at h h'
   have e:a=b:=by
    rcases UInt8.lt_or_lt_of_ne (a:=a) (b:=b) |> fun f=>Classical.em (a=b) with h1 | h1
    · exact h1
    · rcases UInt8.lt_or_lt_of_ne h1 with h2 | h2
      · exact absurd h2 h.1
      · exact absurd h2 h'.1
   subst e
   rw [bl_total l m (h.2 rfl) (h'.2 rfl)]
theorem bl_trans:∀l m n:List UInt8,Op.bytesLess l m=true→Op.bytesLess m n=true→Op.bytesLess l n=true
 | _,[],_,h,_=>by simp [Op.bytesLess] at h
 | _,_ :: _,[],_,h=>by simp [Op.bytesLess] at h
 | [],_ :: _,_ :: _,_,_=>by simp [Op.bytesLess]
 | a :: l,b :: m,c :: n,h,h'=>by
   simp only [Op.bytesLess,Bool.or_eq_true,decide_eq_true_eq,Bool.and_eq_true,beq_iff_eq] at h h' ⊢
   rcases h with h | ⟨rfl,h⟩
   · rcases h' with h' | ⟨rfl,h'⟩
     · exact .inl (UInt8.lt_trans h h')
     · exact .inl h
   · rcases h' with h' | ⟨rfl,h'⟩
     · exact .inl h'
     · exact .inr ⟨rfl,bl_trans l m n h h'⟩
theorem bytes_eq {a b:ByteArray} (h:a.toList=b.toList):a=b:=by
 have e1:a.toList=a.data.toList:=by rw [ByteArray.toList_eq]
 have e2:b.toList=b.data.toList:=by rw [ByteArray.toList_eq]
 rw [e1,e2] at h
 exact ByteArray.ext (Array.ext' h)
theorem nameC_zero {a b:ByteArray}:nameC a b=0↔a=b:=by
 unfold nameC
 constructor
 · intro h
   split at h
   · omega
   · split at h
     · omega
     · rename_i h1 h2
       exact bytes_eq (bl_total _ _ (by simpa using h1) (by simpa using h2))
 · rintro rfl
   simp [bl_irrefl]
theorem nameC_swap (a b:ByteArray):nameC b a=- nameC a b:=by
 unfold nameC
 by_cases h:Op.bytesLess a.toList b.toList=true
 · simp [h,bl_asymm _ _ h]
 · by_cases h2:Op.bytesLess b.toList a.toList=true
   · simp [h,h2]
   · simp [h,h2]

mutual
theorem cmpT_zero:∀(a b:Tm),cmpT a b=0↔a=b
 | .mk k n s l,.mk k' n' s' l'=>by
   rw [cmpT]
   simp only [orE_zero,sgn_zero,nameC_zero,Tm.mk.injEq]
   constructor
   · rintro ⟨-,h1,h2,h3,h4,h5⟩
     exact ⟨h1,h2,h3,(cmpL_zero l l' (by omega)).1 h5⟩
   · rintro ⟨rfl,rfl,rfl,rfl⟩
     exact ⟨rfl,rfl,rfl,rfl,rfl,(cmpL_zero l l rfl).2 rfl⟩
theorem cmpL_zero:∀(l m:List Tm),l.length=m.length→(cmpL l m=0↔l=m)
 | [],[],_=>by simp [cmpL]
 | [],_ :: _,h=>by simp at h
 | _ :: _,[],h=>by simp at h
 | a :: l,b :: m,h=>by
   rw [cmpL,orE_zero,cmpT_zero a b,cmpL_zero l m (by simpa using h)]
   simp
end
theorem orE_neg {a b:Int}:orE (-a) (-b)=- orE a b:=by
 unfold orE;(repeat' split)<;>omega
mutual
theorem cmpT_swap:∀(a b:Tm),cmpT b a=- cmpT a b
 | .mk k n s l,.mk k' n' s' l'=>by
   rw [cmpT,cmpT,sgn_swap ((1+sizeL l:Nat):Int),sgn_swap k,nameC_swap n,sgn_swap s,sgn_swap (l.length:Int),cmpL_swap l l']
   simp only [orE_neg]
theorem cmpL_swap:∀(l m:List Tm),cmpL m l=- cmpL l m
 | [],[]=>by simp [cmpL]
 | [],_ :: _=>by simp [cmpL]
 | _ :: _,[]=>by simp [cmpL]
 | a :: l,b :: m=>by
   rw [cmpL,cmpL,cmpT_swap a b,cmpL_swap l m,orE_neg]
end

/-- transitive, with what is between zero and less -/
def Tr (x y z:Int):Prop:=(x≤0→y≤0→z≤0)∧(x<0→y≤0→z<0)∧(x≤0→y<0→z<0)∧(x=0→y=0→z=0)
theorem Tr.or {x y z x' y' z':Int} (h:Tr x y z) (k:Tr x' y' z'):Tr (orE x x') (orE y y') (orE z z'):=by
 unfold Tr orE at *
 (repeat' split)<;>omega
theorem sgn_tr (a b c:Int):Tr (sgn a b) (sgn b c) (sgn a c):=by
 unfold Tr sgn
 (repeat' split)<;>omega
theorem nameC_tr (a b c:ByteArray):Tr (nameC a b) (nameC b c) (nameC a c):=by
 have key:∀x y:ByteArray,nameC x y<0↔Op.bytesLess x.toList y.toList=true:=fun x y=>by
  unfold nameC;(repeat' split)<;>simp_all
 have le:∀x y:ByteArray,nameC x y≤0↔(Op.bytesLess x.toList y.toList=true∨x=y):=fun x y=>by
  rw [←key,←nameC_zero];omega
 refine ⟨fun h k=>?_,fun h k=>?_,fun h k=>?_,fun h k=>?_⟩
 · rw [le] at h k ⊢
   rcases h with h | rfl
   · rcases k with k | rfl
     · exact .inl (bl_trans _ _ _ h k)
     · exact .inl h
   · exact k
 · rw [key] at h ⊢
   rw [le] at k
   rcases k with k | rfl
   · exact bl_trans _ _ _ h k
   · exact h
 · rw [key] at k ⊢
   rw [le] at h
   rcases h with h | rfl
   · exact bl_trans _ _ _ h k
   · exact k
 · rw [nameC_zero] at *
   exact h.trans k
theorem Tr.zero:Tr 0 0 0:=by unfold Tr;omega
mutual
theorem cmpT_tr:∀(a b c:Tm),Tr (cmpT a b) (cmpT b c) (cmpT a c)
 | .mk k n s l,.mk k' n' s' l',.mk k2 n2 s2 l2=>by
   rw [cmpT,cmpT,cmpT]
   refine (sgn_tr _ _ _).or ((sgn_tr _ _ _).or ((nameC_tr _ _ _).or ((sgn_tr _ _ _).or ?_)))
   by_cases h1:l.length=l'.length
   · by_cases h2:l'.length=l2.length
     · exact (sgn_tr _ _ _).or (cmpL_tr l l' l2 h1 h2)
     · have e:sgn (l.length:Int) (l2.length:Int)=sgn (l'.length:Int) (l2.length:Int):=by rw [h1]
       have e0:sgn (l.length:Int) (l'.length:Int)=0:=sgn_zero.2 (by omega)
       have n0:sgn (l'.length:Int) (l2.length:Int)≠0:=fun e=>h2 (by have:=sgn_zero.1 e;omega)
       rw [e,e0]
       simp only [orE,n0,if_false,if_true]
       by_cases h3:sgn (l'.length:Int) (l2.length:Int)<0
       · unfold Tr;omega
       · have:0<sgn (l'.length:Int) (l2.length:Int):=by omega
         unfold Tr;omega
   · have n0:sgn (l.length:Int) (l'.length:Int)≠0:=fun e=>h1 (by have:=sgn_zero.1 e;omega)
     have hs:=sgn_tr (l.length:Int) (l'.length:Int) (l2.length:Int)
     by_cases h2:l'.length=l2.length
     · have e:sgn (l.length:Int) (l2.length:Int)=sgn (l.length:Int) (l'.length:Int):=by rw [h2]
       have e0:sgn (l'.length:Int) (l2.length:Int)=0:=sgn_zero.2 (by omega)
       rw [e,e0]
       simp only [orE,n0,if_false,if_true]
       by_cases h3:sgn (l.length:Int) (l'.length:Int)<0
       · unfold Tr;omega
       · unfold Tr;omega
     · have n1:sgn (l'.length:Int) (l2.length:Int)≠0:=fun e=>h2 (by have:=sgn_zero.1 e;omega)
       simp only [orE,n0,n1,if_false]
       unfold Tr at *
       split<;>omega
theorem cmpL_tr:∀(l m n:List Tm),l.length=m.length→m.length=n.length→Tr (cmpL l m) (cmpL m n) (cmpL l n)
 | [],[],[],_,_=>by simp only [cmpL];exact Tr.zero
 | a :: l,b :: m,c :: n,h1,h2=>by
   rw [cmpL,cmpL,cmpL]
   exact (cmpT_tr a b c).or (cmpL_tr l m n (by simpa using h1) (by simpa using h2))
end

/-- the order of terms -/
def ltT (a b:Tm):Prop:=cmpT a b<0
theorem ltT_irrefl {a:Tm}:¬ltT a a:=by unfold ltT;rw [(cmpT_zero a a).2 rfl];omega
theorem ltT_trans {a b c:Tm} (h:ltT a b) (k:ltT b c):ltT a c:=(cmpT_tr a b c).2.1 h (by unfold ltT at k;omega)
theorem ltT_total (a b:Tm):ltT a b∨a=b∨ltT b a:=by
 unfold ltT
 rw [cmpT_swap a b,←cmpT_zero a b]
 omega
instance:DecidableEq Tm:=fun a b=>decidable_of_iff _ (cmpT_zero a b)
instance (a b:Tm):Decidable (ltT a b):=by unfold ltT;infer_instance

end Go.Proofs.YtclijngnoepbiaaGreat

namespace Go.Proofs.YtclijngnoepbiaaGreat
open Go Go.RowKit
set_option linter.unusedVariables false
set_option linter.unusedSimpArgs false

/-- the term t lies at place o of block b; the rows of its kids, at every depth, lie in blocks of S -/
inductive TmAt (w:World) (S:Nat→Prop):Nat→Nat→Tm→Prop
 | mk {b o:Nat} {k:Int} {n:ByteArray} {s:Int} {l:List Tm} {a:Option Addr} {cap ba oa:Nat}
  (h0:w.cell? ⟨b,o,none⟩=some (.int .i64 k)) (h1:w.cell? ⟨b,o+1,none⟩=some (.string n)) (h2:w.cell? ⟨b,o+2,none⟩=some (.int .i64 s)) (h3:w.cell? ⟨b,o+3,none⟩=some (.slice a l.length cap))
  (hk:I64 k) (hs:I64 s) (hn:n.size≤maxLen) (hl:l.length≤cap) (hc:cap≤maxLen) (ha:l≠[]→a=some ⟨ba,oa,none⟩∧S ba)
  (kids:∀(i:Nat) t,l[i]?=some t→TmAt w S ba (oa+i*4) t):TmAt w S b o (.mk k n s l)

theorem get0 {α:Type} {l:List α} (h:l≠[]):∃x,l[0]?=some x:=⟨l[0]'(List.length_pos_iff.2 h),List.getElem?_eq_getElem _⟩
/-- the kids l lie at address a -/
def KidsA (w:World) (S:Nat→Prop) (a:Option Addr) (l:List Tm):Prop:=∃ba oa,(l≠[]→a=some ⟨ba,oa,none⟩∧S ba)∧∀(i:Nat) t,l[i]?=some t→TmAt w S ba (oa+i*4) t
/-- a term, with the address and the room of its kids -/
structure TmW (w:World) (S:Nat→Prop) (a:Option Addr) (cap:Nat) (t:Tm):Prop where
 kind:I64 t.kind
 sort:I64 t.sort
 name:t.name.size≤maxLen
 len:t.kids.length≤cap
 cap:cap≤maxLen
 kids:KidsA w S a t.kids
/-- the terms L lie one behind the other at address a -/
def TsA (w:World) (S:Nat→Prop) (a:Option Addr) (L:List Tm):Prop:=∀(i:Nat) t,L[i]?=some t→∃b off,a=some ⟨b,off,none⟩∧TmAt w S b (off+i*4) t

section
variable {w w' : World} {S S' : Nat → Prop} {b o cap : Nat} {a : Option Addr} {t : Tm} {l L : List Tm}
theorem TmAt.open (h:TmAt w S b o t):∃a cap,w.cell? ⟨b,o,none⟩=some (.int .i64 t.kind)∧w.cell? ⟨b,o+1,none⟩=some (.string t.name)∧w.cell? ⟨b,o+2,none⟩=some (.int .i64 t.sort)∧w.cell? ⟨b,o+3,none⟩=some (.slice a t.kids.length cap)∧TmW w S a cap t:=by
 cases h with
 | mk h0 h1 h2 h3 hk hs hn hl hc ha kids=>exact ⟨_,_,h0,h1,h2,h3,hk,hs,hn,hl,hc,_,_,ha,kids⟩
theorem TmAt.close (h0:w.cell? ⟨b,o,none⟩=some (.int .i64 t.kind)) (h1:w.cell? ⟨b,o+1,none⟩=some (.string t.name)) (h2:w.cell? ⟨b,o+2,none⟩=some (.int .i64 t.sort)) (h3:w.cell? ⟨b,o+3,none⟩=some (.slice a t.kids.length cap)) (h:TmW w S a cap t):TmAt w S b o t:=by
 cases t with
 | mk k n s l =>
   obtain ⟨hk,hs,hn,hl,hc,ba,oa,ha,kids⟩:=h
   exact .mk h0 h1 h2 h3 hk hs hn hl hc ha kids
theorem TmAt.lt (h:TmAt w S b o t):b<w.heap.size:=by
 obtain ⟨a,cap,h0,-⟩:=h.open
 exact World.block_lt_of_cell? w ⟨b,o,none⟩ h0
/-- other blocks may change -/
theorem TmAt.keep (h:TmAt w S b o t) (hb:w'.heap[b]?=w.heap[b]?) (hB:∀c,S c→c<w.heap.size→w'.heap[c]?=w.heap[c]?) (hS:∀c,S c→c<w.heap.size→S' c):TmAt w' S' b o t:=by
 induction h with
 | @mk b o k n s l a cap ba oa h0 h1 h2 h3 hk hs hn hl hc ha kids ih =>
   have e:∀o,w'.cell? ⟨b,o,none⟩=w.cell? ⟨b,o,none⟩:=fun o=>World.cell?_of_block (a:=⟨b,o,none⟩) hb
   have hlt:l≠[]→ba<w.heap.size:=fun hne=>by
    obtain ⟨x,hx⟩:=get0 hne
    exact (kids 0 x hx).lt
   refine .mk (by rw [e];exact h0) (by rw [e];exact h1) (by rw [e];exact h2) (by rw [e];exact h3) hk hs hn hl hc (fun hne=>⟨(ha hne).1,hS _ (ha hne).2 (hlt hne)⟩) (fun i t hi=>ih i t hi (hB _ (ha (ne_nil_of_get hi)).2 (hlt (ne_nil_of_get hi))))
theorem KidsA.keep (h:KidsA w S a l) (hB:∀c,S c→c<w.heap.size→w'.heap[c]?=w.heap[c]?) (hS:∀c,S c→c<w.heap.size→S' c):KidsA w' S' a l :=
 let ⟨ba,oa,ha,hk⟩:=h
 ⟨ba,oa,fun hne=>⟨(ha hne).1,hS _ (ha hne).2 (let ⟨x,hx⟩:=get0 hne;(hk 0 x hx).lt)⟩,fun i t hi=>(hk i t hi).keep (hB _ (ha (ne_nil_of_get hi)).2 (hk i t hi).lt) hB hS⟩
theorem TmW.keep (h:TmW w S a cap t) (hB:∀c,S c→c<w.heap.size→w'.heap[c]?=w.heap[c]?) (hS:∀c,S c→c<w.heap.size→S' c):TmW w' S' a cap t :=
 ⟨h.kind,h.sort,h.name,h.len,h.cap,h.kids.keep hB hS⟩
theorem TmW.ext (h:TmW w S a cap t) (hE:Ext w w'):TmW w' S a cap t:=h.keep (fun c _ hc=>hE.block hc) (fun _ h _=>h)
theorem TmW.wide (h:TmW w S a cap t) (hS:∀c,S c→c<w.heap.size→S' c):TmW w S' a cap t:=h.keep (fun _ _ _=>rfl) hS
theorem KidsA.ext (h:KidsA w S a l) (hE:Ext w w'):KidsA w' S a l:=h.keep (fun c _ hc=>hE.block hc) (fun _ h _=>h)
theorem TmAt.ext (h:TmAt w S b o t) (hE:Ext w w'):TmAt w' S b o t:=h.keep (hE.block h.lt) (fun c _ hc=>hE.block hc) (fun _ h _=>h)
theorem TmAt.wide (h:TmAt w S b o t) (hS:∀c,S c→c<w.heap.size→S' c):TmAt w S' b o t:=h.keep rfl (fun _ _ _=>rfl) hS
theorem TsA.ext (h:TsA w S a L) (hE:Ext w w'):TsA w' S a L:=fun i t hi =>
 let ⟨b,off,e,ht⟩:=h i t hi
 ⟨b,off,e,ht.ext hE⟩
theorem TsA.wide (h:TsA w S a L) (hS:∀c,S c→c<w.heap.size→S' c):TsA w S' a L:=fun i t hi =>
 let ⟨b,off,e,ht⟩:=h i t hi
 ⟨b,off,e,ht.wide hS⟩
theorem KidsA.ts (h:KidsA w S a l):TsA w S a l:=fun i t hi =>
 let ⟨ba,oa,ha,hk⟩:=h
 ⟨ba,oa,(ha (ne_nil_of_get hi)).1,hk i t hi⟩
theorem TmW.ts (h:TmW w S a cap t):TsA w S a t.kids:=h.kids.ts
/-- a term of a list, opened: its cells, and it as a value -/
theorem TsA.at (h:TsA w S a L) {i:Nat} (hi:L[i]?=some t):∃b off a' cap',a=some ⟨b,off,none⟩∧w.cell? ⟨b,off+i*4,none⟩=some (.int .i64 t.kind)∧w.cell? ⟨b,off+i*4+1,none⟩=some (.string t.name)∧w.cell? ⟨b,off+i*4+2,none⟩=some (.int .i64 t.sort)∧w.cell? ⟨b,off+i*4+3,none⟩=some (.slice a' t.kids.length cap')∧TmW w S a' cap' t :=
 let ⟨b,off,e,ht⟩:=h i t hi
 let ⟨a',cap',h0,h1,h2,h3,h4⟩:=ht.open
 ⟨b,off,a',cap',e,h0,h1,h2,h3,h4⟩
end

/-- only new blocks and draws -/
def Grw (w w':World):Prop:=∃q os,w'=Go.Sort.grow (w.drewN q) os
theorem Grw.refl (w:World):Grw w w:=⟨0,#[],by rw [Go.Sort.grow_empty];rfl⟩
theorem Grw.then_al {w w':World} (h:Grw w w') (o:Obj):Grw w (w'.alloc o):=by
 obtain ⟨q,os,rfl⟩:=h
 exact ⟨q,os++#[o],by rw [Go.Sort.alloc_eq_grow,Go.Sort.grow_grow]⟩
theorem drewN_succ (w:World) (q:Nat):w.drewN (q+1)=(w.drewN q).drew:=by
 unfold World.drewN World.drew
 simp [Nat.add_assoc]
theorem Grw.then_dr {w w':World} (h:Grw w w'):Grw w w'.drew:=by
 obtain ⟨q,os,rfl⟩:=h
 exact ⟨q+1,os,by rw [drewN_succ];rfl⟩
theorem Grw.trans {a b c:World} (h:Grw a b) (k:Grw b c):Grw a c:=by
 obtain ⟨q,os,rfl⟩:=h
 obtain ⟨q',os',rfl⟩:=k
 refine ⟨q+q',os++os',?_⟩
 unfold Go.Sort.grow World.drewN
 simp [Nat.add_assoc]
theorem Grw.ext {w w':World} (h:Grw w w'):Ext w w':=by
 obtain ⟨q,os,rfl⟩:=h
 refine ⟨rfl,rfl,rfl,?_,fun k hk=>?_⟩
 · show w.heap.size≤(w.heap++os).size
   simp
 · show (w.heap++os)[k]?=w.heap[k]?
   rw [Array.getElem?_append_left hk]
theorem Grw.al {w w':World} {o:Obj} (h:Grw (w.alloc o) w'):Grw w w':=((Grw.refl w).then_al o).trans h
theorem Grw.dr {w w':World} (h:Grw w.drew w'):Grw w w':=((Grw.refl w).then_dr).trans h

end Go.Proofs.YtclijngnoepbiaaGreat

namespace Go.Proofs.YtclijngnoepbiaaGreat
open Go
set_option linter.unusedVariables false
set_option linter.unusedSimpArgs false

def letterB (c:UInt8):Bool:=decide (97≤c.toNat∧c.toNat≤122∨65≤c.toNat∧c.toNat≤90)
def digitB (c:UInt8):Bool:=decide (48≤c.toNat∧c.toNat≤57)
/-- a byte of a name, at place i -/
def okB (i:Nat) (c:UInt8):Bool:=letterB c || (i != 0 && (c.toNat==95 || c.toNat==35 || digitB c))
def nameOk (s:ByteArray):Bool:=decide (0<s.size∧s.size≤24∧∀i (h:i<s.size),okB i s[i]=true)

/-- the error of a node alone -/
def nodeE (k:Int) (n:ByteArray) (s:Int) (len:Nat):Int :=
 if ¬((k=1∨k=2)∧0≤s∧s≤5∧len=0∨k=3∧s=0) then 1 else if nameOk n=false then 2 else if 8<len then 3 else 0
mutual
def errT:Tm→Int | .mk k n s l=>orE (nodeE k n s l.length) (errL l)
def errL:List Tm→Int | []=>0 | t :: l=>orE (errT t) (errL l)
end
/-- the error of a term -/
def validT (t:Tm):Int:=orE (errT t) (if 400<sizeT t∨40<depthT t then 3 else 0)
theorem sizeL_get:∀{L:List Tm} {i:Nat} {t:Tm},L[i]?=some t→sizeT t≤sizeL L
 | [],i,t,h=>by simp at h
 | x :: L,0,t,h=>by cases h;rw [sizeL];omega
 | x :: L,i+1,t,h=>by
   rw [sizeL]
   have:=sizeL_get (L:=L) (i:=i) (t:=t) (by simpa using h)
   omega
theorem sizeT_kids (t:Tm):sizeT t=1+sizeL t.kids:=by cases t;rw [sizeT];rfl
theorem depthT_kids (t:Tm):depthT t=depthL t.kids+1:=by cases t;rw [depthT];rfl
theorem errT_kids (t:Tm):errT t=orE (nodeE t.kind t.name t.sort t.kids.length) (errL t.kids):=by cases t;rw [errT];rfl
theorem sizeL_append:∀(L M:List Tm),sizeL (L++M)=sizeL L+sizeL M
 | [],M=>by simp [sizeL]
 | t :: L,M=>by rw [List.cons_append,sizeL,sizeL,sizeL_append L M];omega
mutual
theorem depthT_size:∀(t:Tm),depthT t≤sizeT t
 | .mk _ _ _ l=>by rw [depthT,sizeT];have:=depthL_size l;omega
theorem depthL_size:∀(l:List Tm),depthL l≤sizeL l
 | []=>by simp [depthL,sizeL]
 | t :: l=>by rw [depthL,sizeL];have:=depthT_size t;have:=depthL_size l;omega
end

/-- two ascending lists merged; what is in both is left out -/
def plusS:List Tm→List Tm→List Tm
 | [],b=>b
 | x :: a,[]=>x :: a
 | x :: a,y :: b=>if cmpT x y<0 then x :: plusS a (y :: b) else if 0<cmpT x y then y :: plusS (x :: a) b else plusS a b
termination_by a b=>a.length+b.length
/-- ascending, each once -/
abbrev Asc (L:List Tm):Prop:=L.Pairwise ltT

end Go.Proofs.YtclijngnoepbiaaGreat

namespace Go.Proofs.YtclijngnoepbiaaGreat

/-- nothing that was there has changed, and no answer of the tape was given back -/
structure ExtD (w w':World):Prop where
 e:Ext w w'
 d:w.drawn≤w'.drawn
theorem ExtD.refl (w:World):ExtD w w:=⟨Ext.refl _,Nat.le_refl _⟩
theorem ExtD.size {w w':World} (h:ExtD w w'):w.heap.size≤w'.heap.size:=h.e.size
theorem ExtD.trans {a b c:World} (h:ExtD a b) (k:ExtD b c):ExtD a c:=⟨h.e.trans k.e,Nat.le_trans h.d k.d⟩
theorem ExtD.alloc (w:World) (o:Obj):ExtD w (w.alloc o):=⟨Ext.alloc w o,Nat.le_refl _⟩
theorem ExtD.drew (w:World):ExtD w w.drew:=⟨Ext.drew w,Nat.le_succ _⟩
theorem ExtD.block {w w':World} (h:ExtD w w') {b:Nat} (hb:b<w.heap.size):w'.heap[b]?=w.heap[b]?:=h.e.block hb
theorem ExtD.grw {w w':World} (h:ExtD w w'):Grw w w':=by
 refine ⟨w'.drawn-w.drawn,w'.heap.extract w.heap.size w'.heap.size,?_⟩
 have e1:w.drawn+(w'.drawn-w.drawn)=w'.drawn:=by have:=h.d;omega
 have e2:w.heap++w'.heap.extract w.heap.size w'.heap.size=w'.heap:=by
  apply Array.ext_getElem?
  intro i
  by_cases hi:i<w.heap.size
  · rw [Array.getElem?_append_left hi];exact (h.block hi).symm
  · rw [Array.getElem?_append_right (by omega),Array.getElem?_extract]
    split
    · congr 1;omega
    · rw [Array.getElem?_eq_none (by have:=h.size;omega)]
 unfold Go.Sort.grow World.drewN
 simp only [e1,e2]
 obtain ⟨h1,h2,h3,-,-⟩:=h.e
 cases w'
 simp_all
namespace D
open Go Go.RowKit
set_option linter.unusedVariables false

/-- what an operation came to: the number of the block that it made, or its value -/
structure Gh where
 n:Nat
 v:Value
 deriving Inhabited
abbrev Ghs:=Nat→Gh

def regUpon (P:Program) (w:World) (R:Value→World→Prop):Result Next→Prop
 | .ok (.value u) w'=>ExtD w w'∧R u w'
 | .ok .skip w'=>ExtD w w'∧R undef w'
 | .ok (.enter f args) w'=>ExtD w w'∧Calls P f args w' (fun e w''=>∃u,e=.returned u∧ExtD w' w''∧R u w'')
 | _=>False

inductive RegD where
 | skip
 | value (v:Ghs→Value)
 | const (v:Value)
 | call (ψ:Value→World→Prop)
 | fresh (mk:Nat→Value) (ob:Ghs→Obj)
 | turn (p:Nat) (b b':Ghs→Obj)
 | act

def RegD.val (d:RegD) (k:Nat) (g:Ghs):Value :=
 match d with
 | .skip=>undef
 | .value v=>v g
 | .const v=>v
 | .call _=>(g k).v
 | .fresh mk _=>mk (g k).n
 | .turn ..=>undef
 | .act=>(g k).v

structure RegSt where
 A:Ghs→Act
 fs:List (Nat × (Ghs→Obj))
 ts:List (Nat × (Ghs→Obj))
 ps:List (Nat × (Value→World→Prop))

def RegSt.next (s:RegSt) (d:RegD) (k:Nat) (dst:Option Tmp):RegSt where
 A:=fun g=>(s.A g).put dst (d.val k g)
 fs:=match d with | .fresh _ ob=>(k,ob) :: s.fs | .turn p _ _=>s.fs.filter (fun q=>!(q.1==p)) | _=>s.fs
 ts:=match d with | .turn p _ b'=>(p,b') :: s.ts | _=>s.ts
 ps:=match d with | .call ψ=>(k,ψ) :: s.ps | _=>s.ps

/-- operation k waits for operation j -/
inductive Anc (ops:Array Oper):Nat→Nat→Prop
 | one {j k:Nat} {o:Oper} {e:Edge}:ops[k]?=some o→e∈o.after→Region.binds .any e=true→e.on=j→Anc ops j k
 | step {j m k:Nat} {o:Oper} {e:Edge}:ops[k]?=some o→e∈o.after→Region.binds .any e=true→e.on=m→Anc ops j m→Anc ops j k

def RegPre (ops:Array Oper) (ps:List (Nat × (Value→World→Prop))) (k:Nat) (g:Ghs) (w:World):Prop:=∀p∈ps,Anc ops p.1 k→p.2 (g p.1).v w

def MapStable (ψ:Value→World→Prop):Prop:=∀u w b es cl o,ψ u w→w.heap[b]?=some (.map es cl)→ψ u (ChangeMaps.setBlock w b o)
/-- an act: blocks from B on stay as they are -/
def ActExt (B:Nat) (w w':World):Prop:=w.heap.size≤w'.heap.size∧∀b,B≤b→b<w.heap.size→w'.heap[b]?=w.heap[b]?
def Persist (tb:Bool) (B:Nat) (acts:List Nat) (ψ:Value→World→Prop):Prop:=(∀u w w',ψ u w→ExtD w w'→ψ u w')∧(tb=true→MapStable ψ)∧(acts≠[]→∀u w w',ψ u w→ActExt B w w'→ψ u w')
/-- how many acts may have run when operation k runs -/
def Phase (ops:Array Oper) (acts:List Nat) (k m:Nat):Prop:=(∀i a,acts[i]?=some a→Anc ops a k→i<m)∧(∀i a,acts[i]?=some a→Anc ops k a→m≤i)
theorem Phase.nil {ops:Array Oper} {k m:Nat}:Phase ops [] k m:=⟨fun i a h=>by simp at h,fun i a h=>by simp at h⟩
def RegFr (ops:Array Oper) (B:Nat) (fs:List (Nat × (Ghs→Obj))) (k:Nat) (g:Ghs) (w:World):Prop:=∀p∈fs,Anc ops p.1 k→w.heap[(g p.1).n]?=some (p.2 g)∧B≤(g p.1).n

def RegOk (P:Program) (ops:Array Oper) (I:List Value→World→Prop) (acts:List Nat) (B:Nat) (tb:Bool) (k:Nat) (o:Oper) (s:RegSt):RegD→Prop
 | .skip=>∀g,Region.wanted o (yielded ops (s.A g).tmps)=false
 | .value v=>(∀g,Region.wanted o (yielded ops (s.A g).tmps)=true)∧∀g w m,Phase ops acts k m→I ((acts.take m).map fun x=>(g x).v) w→RegPre ops s.ps k g w→(execOp (s.A g).eval o).run P w=.ok (.value (v g)) w
 | .const v=>(∀g,Region.wanted o (yielded ops (s.A g).tmps)=true)∧∀g w m,Phase ops acts k m→I ((acts.take m).map fun x=>(g x).v) w→RegPre ops s.ps k g w→regUpon P w (fun u _=>u=v) ((execOp (s.A g).eval o).run P w)
 | .call ψ=>(∀g,Region.wanted o (yielded ops (s.A g).tmps)=true)∧Persist tb B acts ψ∧∀g w m,Phase ops acts k m→I ((acts.take m).map fun x=>(g x).v) w→RegPre ops s.ps k g w→regUpon P w ψ ((execOp (s.A g).eval o).run P w)
 | .fresh mk ob=>(∀g,Region.wanted o (yielded ops (s.A g).tmps)=true)∧∀g w m,Phase ops acts k m→I ((acts.take m).map fun x=>(g x).v) w→RegPre ops s.ps k g w→(execOp (s.A g).eval o).run P w=.ok (.value (mk w.heap.size)) (w.alloc (ob g))
 | .turn p b b'=>(∀g,Region.wanted o (yielded ops (s.A g).tmps)=true)∧tb=true∧(p,b)∈s.fs∧Anc ops p k∧(∀g,∃es cl,b g=.map es cl) ∧
     ∀g w m,Phase ops acts k m→I ((acts.take m).map fun x=>(g x).v) w→RegPre ops s.ps k g w→w.heap[(g p).n]?=some (b g)→∃x,(execOp (s.A g).eval o).run P w=.ok x (ChangeMaps.setBlock w (g p).n (b' g))∧(x=.value undef∨x=.skip)
 | .act=>(∀g,Region.wanted o (yielded ops (s.A g).tmps)=true)∧tb=false∧∃i,acts[i]?=some k ∧
     ∀g w,I ((acts.take i).map fun x=>(g x).v) w→RegPre ops s.ps k g w→RegFr ops B s.fs k g w→B≤w.heap.size→∃x v w',(execOp (s.A g).eval o).run P w=.ok x w'∧(x=.value v∨x=.skip∧v=undef)∧ActExt B w w'∧I (((acts.take i).map fun x=>(g x).v)++[v]) w'

def RegD.acts:RegD→Bool
 | .act=>true
 | _=>false

def wpReg (P:Program) (ops:Array Oper) (I:List Value→World→Prop) (acts:List Nat) (B:Nat) (tb:Bool) (Q:RegSt→Prop):Nat→List Oper→RegSt→Prop
 | _,[],s=>Q s
 | k,o :: rest,s=>∃d,RegOk P ops I acts B tb k o s d∧d.acts=acts.elem k∧wpReg P ops I acts B tb Q (k+1) rest (s.next d k o.dst)

section
variable {P : Program} {ops : Array Oper} {I : List Value → World → Prop} {acts : List Nat} {B : Nat} {tb : Bool} {Q : RegSt → Prop} {k : Nat} {o : Oper} {rest : List Oper} {A : Ghs → Act} {fs ts : List (Nat × (Ghs → Obj))} {ps : List (Nat × (Value → World → Prop))}

theorem reg_value (hw:∀g,Region.wanted o (yielded ops (A g).tmps)=true) (v:Ghs→Value) (hv:∀g w m,Phase ops acts k m→I ((acts.take m).map fun x=>(g x).v) w→RegPre ops ps k g w→(execOp (A g).eval o).run P w=.ok (.value (v g)) w)
 (h:wpReg P ops I acts B tb Q (k+1) rest ⟨fun g=>(A g).put o.dst (v g),fs,ts,ps⟩) (hk:false=acts.elem k:=by rfl):wpReg P ops I acts B tb Q k (o :: rest) ⟨A,fs,ts,ps⟩ :=
 ⟨.value v,⟨hw,hv⟩,hk,h⟩
theorem reg_const (hw:∀g,Region.wanted o (yielded ops (A g).tmps)=true) (f:FuncId) (args:Ghs→Array Value) (he:∀g w m,Phase ops acts k m→I ((acts.take m).map fun x=>(g x).v) w→RegPre ops ps k g w→(execOp (A g).eval o).run P w=.ok (.enter f (args g)) w)
 (h:∃v,(∀g w m,Phase ops acts k m→I ((acts.take m).map fun x=>(g x).v) w→RegPre ops ps k g w→Calls P f (args g) w (fun e w''=>e=.returned v∧ExtD w w''))∧wpReg P ops I acts B tb Q (k+1) rest ⟨fun g=>(A g).put o.dst v,fs,ts,ps⟩) (hk:false=acts.elem k:=by rfl):wpReg P ops I acts B tb Q k (o :: rest) ⟨A,fs,ts,ps⟩ :=
 let ⟨v,hv,h⟩:=h
 ⟨.const v,⟨hw,fun g w vs hm hE hp=>by rw [he g w vs hm hE hp];exact ⟨ExtD.refl w,(hv g w vs hm hE hp).mono fun e w'' ⟨a,b⟩=>⟨v,a,b,rfl⟩⟩⟩,hk,h⟩
end

/-- the states -/
def regSt (l:List Oper) (d:Nat→RegD) (s:RegSt):Nat→RegSt
 | 0=>s
 | i+1=>(regSt l d s i).next (d i) i ((l[i]?).bind (·.dst))

theorem reg_specs {P:Program} {ops:Array Oper} {I:List Value→World→Prop} {acts:List Nat} {B:Nat} {tb:Bool} {Q:RegSt→Prop} (L:List Oper) (s0:RegSt):∀(l:List Oper) (k:Nat) (d0:Nat→RegD),(∀j,l[j]?=L[k+j]?)→(∀i o,i<k→L[i]?=some o→RegOk P ops I acts B tb i o (regSt L d0 s0 i) (d0 i)∧(d0 i).acts=acts.elem i) →
 wpReg P ops I acts B tb Q k l (regSt L d0 s0 k)→∃d:Nat→RegD,(∀i o,i<k+l.length→L[i]?=some o→RegOk P ops I acts B tb i o (regSt L d s0 i) (d i)∧(d i).acts=acts.elem i)∧Q (regSt L d s0 (k+l.length))
 | [],k,d0,hl,hok,h=>⟨d0,by simpa using hok,by simpa [wpReg] using h⟩
 | o :: l,k,d0,hl,hok,h=>by
   obtain ⟨dk,h1,h1a,h2⟩:=h
   have hk:L[k]?=some o:=by have:=hl 0;simpa using this.symm
   have hst:∀i,i≤k→regSt L (fun j=>if j=k then dk else d0 j) s0 i=regSt L d0 s0 i:=by
    intro i
    induction i with
    | zero=>intro _;rfl
    | succ i ih =>
      intro hi
      simp only [regSt]
      rw [ih (by omega),if_neg (by omega)]
   obtain ⟨d,h3,h4⟩:=reg_specs L s0 l (k+1) (fun j=>if j=k then dk else d0 j) (fun j=>by have:=hl (j+1);simpa [Nat.add_assoc,Nat.add_comm 1] using this)
    (fun i oi hi hoi=>by
      rw [hst i (by omega)]
      by_cases hik:i=k
      · subst hik
        rw [hk] at hoi;cases hoi
        simp only [if_true]
        exact ⟨h1,h1a⟩
      · simp only [hik,if_false]
        exact hok i oi (by omega) hoi)
    (by simp only [regSt];rw [hst k (Nat.le_refl k),hk];simpa using h2)
   refine ⟨d,?_,?_⟩
   · intro i oi hi hoi
     exact h3 i oi (by simp at hi;omega) hoi
   · rw [show k+(o :: l).length=k+1+l.length by simp;omega]
     exact h4

section
variable {l : List Oper} {d : Nat → RegD} {s0 : RegSt} {a0 : Act}

theorem regA_defers (hs:∀g,s0.A g=a0) (g:Ghs):∀m,((regSt l d s0 m).A g).defers=a0.defers
 | 0=>by simp [regSt,hs]
 | m+1=>by simp only [regSt,RegSt.next,defers_put];exact regA_defers hs g m
theorem regA_other (hs:∀g,s0.A g=a0) {g:Ghs} {t:Nat}:∀{m},(∀i,i<m→(l[i]?).bind (·.dst)≠some t)→((regSt l d s0 m).A g).tmps[t]?=a0.tmps[t]?
 | 0,_=>by simp [regSt,hs]
 | m+1,h=>by
   simp only [regSt,RegSt.next,get_put]
   rw [if_neg (h m (by omega))]
   exact regA_other hs (fun i hi=>h i (by omega))
theorem regA_at (hs:∀g,s0.A g=a0) {g:Ghs} {t i:Nat} (hi:(l[i]?).bind (·.dst)=some t):∀{m},i<m→(∀j,j<m→j≠i→(l[j]?).bind (·.dst)≠some t)→((regSt l d s0 m).A g).tmps[t]?=a0.tmps[t]?.map (fun _=>(d i).val i g)
 | 0,h,_=>by omega
 | m + 1,h,hd=>by
   simp only [regSt,RegSt.next,get_put]
   by_cases hm:m=i
   · subst hm
     rw [if_pos hi,regA_other hs (fun j hj=>hd j (by omega) (by omega))]
   · rw [if_neg (hd m (by omega) hm)]
     exact regA_at hs hi (by omega) (fun j hj=>hd j (by omega))

theorem regSt_ps (h0:s0.ps=[]):∀m,∀p∈(regSt l d s0 m).ps,p.1<m∧d p.1=.call p.2
 | 0,p,hp=>by simp [regSt,h0] at hp
 | m+1,p,hp=>by
   have ih:=regSt_ps h0 m
   simp only [regSt,RegSt.next] at hp
   cases hd:d m<;>rw [hd] at hp<;>simp only [List.mem_cons] at hp
   case call ψ =>
    rcases hp with rfl | hp
    · exact ⟨by simp,hd⟩
    · have:=ih p hp;exact ⟨by omega,this.2⟩
   all_goals (have:=ih p hp;exact ⟨by omega,this.2⟩)

theorem regSt_fs (h0:s0.fs=[]):∀m,(∀k p b b',k<m→d k=.turn p b b'→p<k)→∀p∈(regSt l d s0 m).fs,p.1<m∧(∃mk,d p.1=.fresh mk p.2)∧∀k,k<m→∀b b',d k≠.turn p.1 b b'
 | 0,_,p,hp=>by simp [regSt,h0] at hp
 | m + 1,ht,p,hp=>by
   have ih:=regSt_fs h0 m (fun k p b b' hk=>ht k p b b' (by omega))
   have old:p∈(regSt l d s0 m).fs→(∀b b',d m≠.turn p.1 b b')→p.1<m+1∧(∃mk,d p.1=.fresh mk p.2)∧∀k,k<m+1→∀b b',d k≠.turn p.1 b b':=fun hp hm=>by
    obtain ⟨h1,h2,h3⟩:=ih p hp
    refine ⟨by omega,h2,fun k hk b b'=>?_⟩
    by_cases hkm:k=m
    · subst hkm;exact hm b b'
    · exact h3 k (by omega) b b'
   simp only [regSt,RegSt.next] at hp
   cases hd:d m<;>rw [hd] at hp<;>simp only [List.mem_cons,List.mem_filter] at hp
   case fresh mk ob =>
    rcases hp with rfl | hp
    · refine ⟨by simp,⟨mk,hd⟩,fun k hk b b' hkt=>?_⟩
      have:=ht k _ b b' hk hkt
      simp at this
      omega
    · exact old hp (fun b b' h=>by rw [hd] at h;cases h)
   case turn q b b' =>
    refine old hp.1 (fun c c' h=>?_)
    rw [hd] at h
    cases h
    simp at hp
   all_goals exact old hp (fun b b' h=>by rw [hd] at h;cases h)

theorem regSt_ts (h0:s0.ts=[]):∀m,∀p∈(regSt l d s0 m).ts,∃k b,k<m∧d k=.turn p.1 b p.2
 | 0,p,hp=>by simp [regSt,h0] at hp
 | m+1,p,hp=>by
   have ih:=regSt_ts h0 m
   have old:p∈(regSt l d s0 m).ts→∃k b,k<m+1∧d k=.turn p.1 b p.2:=fun hp=>by
    obtain ⟨k,b,h1,h2⟩:=ih p hp
    exact ⟨k,b,by omega,h2⟩
   simp only [regSt,RegSt.next] at hp
   cases hd:d m<;>rw [hd] at hp<;>simp only [List.mem_cons] at hp
   case turn q b b' =>
    rcases hp with rfl | hp
    · exact ⟨m,b,by omega,hd⟩
    · exact old hp
   all_goals exact old hp

theorem regSt_nodup (h0:s0.fs=[]) (h1:s0.ts=[]):∀m,(∀k p b b',k<m→d k=.turn p b b'→(p,b)∈(regSt l d s0 k).fs)→(∀k p b b',k<m→d k=.turn p b b'→p<k)→(((regSt l d s0 m).fs++(regSt l d s0 m).ts).map (·.1)).Nodup
 | 0,_,_=>by simp [regSt,h0,h1]
 | m + 1,hin,ht=>by
   have ih:=regSt_nodup h0 h1 m (fun k p b b' hk=>hin k p b b' (by omega)) (fun k p b b' hk=>ht k p b b' (by omega))
   have hf:=regSt_fs (l:=l) (d:=d) (s0:=s0) h0 m (fun k p b b' hk=>ht k p b b' (by omega))
   have htt:=regSt_ts (l:=l) (d:=d) (s0:=s0) h1 m
   simp only [regSt,RegSt.next]
   cases hd:d m<;>simp only<;>try exact ih
   case fresh mk ob =>
    simp only [List.cons_append,List.map_cons,List.nodup_cons]
    refine ⟨fun hmem=>?_,ih⟩
    obtain ⟨p,hp,he⟩:=List.mem_map.1 hmem
    rcases List.mem_append.1 hp with hp | hp
    · have:=(hf p hp).1;omega
    · obtain ⟨k,b,hk,hkt⟩:=htt p hp
      have:=ht k _ _ _ (by omega) hkt
      omega
   case turn q b b' =>
    have hq:=hin m q b b' (by omega) hd
    rw [List.map_append,List.nodup_append] at ih ⊢
    obtain ⟨n1,n2,n3⟩:=ih
    refine ⟨(List.Sublist.map _ (List.filter_sublist)).nodup n1,?_,?_⟩
    · simp only [List.map_cons,List.nodup_cons]
      refine ⟨fun hmem=>?_,n2⟩
      exact n3 q (List.mem_map.2 ⟨_,hq,rfl⟩) q hmem rfl
    · intro x hx y hy
      obtain ⟨p,hp,rfl⟩:=List.mem_map.1 hx
      obtain ⟨hp,hpq⟩:=List.mem_filter.1 hp
      simp only [List.map_cons,List.mem_cons] at hy
      rcases hy with rfl | hy
      · simpa using hpq
      · exact n3 _ (List.mem_map.2 ⟨p,hp,rfl⟩) y hy
end

def Agree (listed:Array Bool) (g g':Ghs):Prop:=∀i,listed.getD i false=true→g' i=g i

def RegFresh (B:Nat) (fs:List (Nat × (Ghs→Obj))) (g:Ghs) (w:World):Prop :=
 B≤w.heap.size∧(∀p∈fs,w.heap[(g p.1).n]?=some (p.2 g)∧B≤(g p.1).n)∧fs.Pairwise fun p q=>(g p.1).n≠(g q.1).n

structure RegJ (I:List Value→World→Prop) (acts:List Nat) (B:Nat) (ops:Array Oper) (n:Nat) (a0:Act) (d:Nat→RegD) (listed:Array Bool) (a:Act) (w:World) (g:Ghs):Prop where
 lo:B≤w.heap.size
 inv:∃m,m≤acts.length∧(∀i1 x,acts[i1]?=some x→(listed.getD x false=true↔i1<m))∧I ((acts.take m).map fun x=>(g x).v) w
 defers:a.defers=a0.defers
 at_:∀g',Agree listed g g'→∀i,i<n→listed.getD i false=true→∀t,(ops[i]?).bind (·.dst)=some t→a.tmps[t]?=a0.tmps[t]?.map (fun _=>(d i).val i g')
 other:∀t,(∀i,i<n→listed.getD i false=true→(ops[i]?).bind (·.dst)≠some t)→a.tmps[t]?=a0.tmps[t]?
 fresh:∀g',Agree listed g g'→∀i,i<n→listed.getD i false=true→∀mk b,d i=.fresh mk b→B≤(g' i).n∧∃c,w.heap[(g' i).n]?=some c ∧
  ((∀k,k<n→listed.getD k false=true→∀x y,d k≠.turn i x y)→c=b g')∧(∀k,k<n→listed.getD k false=true→∀x y,d k=.turn i x y→c=y g')
 apart:∀i j,i<n→j<n→listed.getD i false=true→listed.getD j false=true→i≠j→∀mk b mk' b',d i=.fresh mk b→d j=.fresh mk' b'→(g i).n≠(g j).n
 facts:∀i,i<n→listed.getD i false=true→∀ψ,d i=.call ψ→ψ (g i).v w

theorem anc_listed {ops:Array Oper} {listed:Array Bool} (hcl:∀i,listed.getD i false=true→∀o,ops[i]?=some o→∀e∈o.after,Region.binds .any e=true→listed.getD e.on false=true)
 {j k:Nat} (h:Anc ops j k):(∀o,ops[k]?=some o→∀e∈o.after,Region.binds .any e=true→listed.getD e.on false=true)→listed.getD j false=true:=by
 induction h with
 | one ho he hb hon=>intro hk;rw [←hon];exact hk _ ho _ he hb
 | step ho he hb hon _ ih=>intro hk;exact ih (fun o' ho' e' he' hb'=>hcl _ (by rw [←hon];exact hk _ ho _ he hb) o' ho' e' he' hb')

theorem reg_turned_block {w:World} {b k:Nat} {o:Obj} (hk:k≠b):(ChangeMaps.setBlock w b o).heap[k]?=w.heap[k]?:=by
 simp only [ChangeMaps.setBlock]
 rw [Array.setIfInBounds_def]
 split
 · rw [Array.getElem?_set_ne _ (fun h=>hk h.symm)]
 · rfl
theorem reg_turned_same {w:World} {b:Nat} {o o':Obj} (h:w.heap[b]?=some o'):(ChangeMaps.setBlock w b o).heap[b]?=some o:=by
 have:=(Array.getElem?_eq_some_iff.1 h).1
 simp [ChangeMaps.setBlock,this]
theorem reg_turned_ext {W w:World} {b:Nat} {o:Obj} (h:ExtD W w) (hb:W.heap.size≤b):ExtD W (ChangeMaps.setBlock w b o) :=
 ⟨⟨h.e.os,h.e.tape,h.e.output,by simpa [ChangeMaps.setBlock] using h.size,fun k hk=>by rw [reg_turned_block (by omega)];exact ExtD.block h hk⟩,h.d⟩

section
variable {P : Program} {ops : Array Oper} {n : Nat} {I : List Value → World → Prop} {acts : List Nat} {B : Nat} {tb : Bool} {a0 : Act} {d : Nat → RegD} {listed : Array Bool} {a : Act} {w : World} {g : Ghs}

theorem RegJ.put (J:RegJ I acts B ops n a0 d listed a w g) {i:Nat} {o:Oper} (hn:i<n) (ho:ops[i]?=some o) (hlt:i<listed.size) (hun:listed.getD i false=false)
 (hc:∀i o,i<n→ops[i]?=some o→CalmCond ops n i o) {w':World} {g':Ghs} (hg:∀j,j≠i→g' j=g j) {V:Value} (hV:∀g'',Agree (listed.setIfInBounds i true) g' g''→(d i).val i g''=V) (hS:B≤w'.heap.size) (hinv:∃m,m≤acts.length∧(∀i1 x,acts[i1]?=some x→((listed.setIfInBounds i true).getD x false=true↔i1<m))∧I ((acts.take m).map fun x=>(g' x).v) w')
 (hfresh:∀g'',Agree (listed.setIfInBounds i true) g' g''→∀j,j<n→(listed.setIfInBounds i true).getD j false=true→∀mk b,d j=.fresh mk b→B≤(g'' j).n∧∃c,w'.heap[(g'' j).n]?=some c ∧
   ((∀k,k<n→(listed.setIfInBounds i true).getD k false=true→∀x y,d k≠.turn j x y)→c=b g'')∧(∀k,k<n→(listed.setIfInBounds i true).getD k false=true→∀x y,d k=.turn j x y→c=y g''))
 (hold:∀j,j<n→j≠i→listed.getD j false=true→∀mk b,d j=.fresh mk b→∀mk' b',d i=.fresh mk' b'→(g j).n≠(g' i).n)
 (hfacts:∀j,j<n→(listed.setIfInBounds i true).getD j false=true→∀ψ,d j=.call ψ→ψ (g' j).v w') :
 RegJ I acts B ops n a0 d (listed.setIfInBounds i true) (a.put o.dst V) w' g':=by
 have hlist:∀j,j≠i→(listed.setIfInBounds i true).getD j false=listed.getD j false:=fun j h=>getD_set_ne false (Ne.symm h)
 have hdist:∀j,j<n→j≠i→∀t,o.dst=some t→(ops[j]?).bind (·.dst)≠some t:=by
  intro j hj hji t ht hjt
  rcases Nat.lt_or_ge j i with h | h
  · exact (hc i o hn ho).once j h t ht hjt
  · cases hoj:ops[j]? with
    | none=>rw [hoj] at hjt;cases hjt
    | some oj =>
      rw [hoj] at hjt
      exact (hc j oj hj hoj).once i (by omega) t hjt (by rw [ho];exact ht)
 have hag:∀g'',Agree (listed.setIfInBounds i true) g' g''→Agree listed g g'':=fun g'' h j hj=>by
  have hji:j≠i:=fun e=>by subst e;rw [hun] at hj;cases hj
  rw [h j (by rw [hlist j hji];exact hj),hg j hji]
 refine ⟨hS,hinv,by rw [defers_put];exact J.defers,?_,?_,hfresh,?_,hfacts⟩
 · intro g'' hag' j hj hl t ht
   rw [get_put]
   by_cases hji:j=i
   · subst hji
     have hd:o.dst=some t:=by rw [ho] at ht;exact ht
     rw [if_pos hd]
     have:a.tmps[t]?=a0.tmps[t]?:=J.other t (fun k hk hlk hkt=>by
      by_cases hkj:k=j
      · subst hkj;rw [hun] at hlk;cases hlk
      · exact hdist k hk hkj t hd hkt)
     rw [this,hV g'' hag']
   · rw [if_neg (fun hd=>hdist j hj hji t hd ht),J.at_ g'' (hag g'' hag') j hj (by rw [hlist j hji] at hl;exact hl) t ht]
 · intro t ht
   rw [get_put]
   have h1:o.dst≠some t:=fun hd=>ht i hn (getD_set_self hlt) (by rw [ho];exact hd)
   rw [if_neg h1]
   exact J.other t (fun j hj hl=>by
    by_cases hji:j=i
    · subst hji;rw [hun] at hl;cases hl
    · exact ht j hj (by rw [hlist j hji];exact hl))
 · intro j k hj hk hlj hlk hjk mk b mk' b' hdj hdk
   by_cases hji:j=i
   · subst hji
     have hkj:k≠j:=fun e=>hjk e.symm
     rw [hg k hkj]
     exact fun e=>hold k hk hkj (by rw [hlist k hkj] at hlk;exact hlk) _ _ hdk _ _ hdj e.symm
   · by_cases hki:k=i
     · subst hki
       rw [hg j hji]
       exact hold j hj hji (by rw [hlist j hji] at hlj;exact hlj) _ _ hdj _ _ hdk
     · rw [hg j hji,hg k hki]
       exact J.apart j k hj hk (by rw [hlist j hji] at hlj;exact hlj) (by rw [hlist k hki] at hlk;exact hlk) hjk _ _ _ _ hdj hdk

theorem RegJ.inv_keep (J:RegJ I acts B ops n a0 d listed a w g) {i:Nat} (hna:acts.elem i=false) {w':World} {g':Ghs} (hg:∀j,j≠i→g' j=g j) (hI:∀vs,I vs w→I vs w') :
 ∃m,m≤acts.length∧(∀i1 x,acts[i1]?=some x→((listed.setIfInBounds i true).getD x false=true↔i1<m))∧I ((acts.take m).map fun x=>(g' x).v) w':=by
 obtain ⟨m,h1,h2,h3⟩:=J.inv
 have hne:∀x∈acts,x≠i:=fun x hx e=>by subst e;simp at hna;exact hna hx
 refine ⟨m,h1,fun i' x hx=>?_,?_⟩
 · rw [getD_set_ne false (Ne.symm (hne x (List.mem_of_getElem? hx)))]
   exact h2 i' x hx
 · rw [List.map_congr_left (g:=fun x=>(g x).v) (fun x hx=>by rw [hg x (hne x (List.mem_of_mem_take hx))])]
   exact hI _ h3

/-- an operation that makes no block and turns none -/
theorem RegJ.put_ext (J:RegJ I acts B ops n a0 d listed a w g) {i:Nat} {o:Oper} (hn:i<n) (ho:ops[i]?=some o) (hlt:i<listed.size) (hun:listed.getD i false=false)
 (hc:∀i o,i<n→ops[i]?=some o→CalmCond ops n i o) (hper:∀j ψ,j<n→d j=.call ψ→Persist tb B acts ψ) (hna:acts.elem i=false) (hIE:∀vs w w',I vs w→ExtD w w'→I vs w') (hnf:∀mk b,d i≠.fresh mk b) (hnt:∀p x y,d i≠.turn p x y)
 {w':World} {g':Ghs} (hg:∀j,j≠i→g' j=g j) {V:Value} (hV:∀g'',Agree (listed.setIfInBounds i true) g' g''→(d i).val i g''=V) (hE:ExtD w w') (hf:∀ψ,d i=.call ψ→ψ (g' i).v w') :
 RegJ I acts B ops n a0 d (listed.setIfInBounds i true) (a.put o.dst V) w' g':=by
 have hlist:∀j,j≠i→(listed.setIfInBounds i true).getD j false=listed.getD j false:=fun j h=>getD_set_ne false (Ne.symm h)
 refine J.put hn ho hlt hun hc hg hV (Nat.le_trans J.lo hE.size) (J.inv_keep hna hg (fun vs h=>hIE _ _ _ h hE)) ?_ (fun j _ _ _ _ _ _ mk' b' h=>absurd h (hnf mk' b')) ?_
 · intro g'' hag j hj hl mk b hdj
   have hji:j≠i:=fun e=>by subst e;exact hnf _ _ hdj
   have hag':Agree listed g g'':=fun k hk=>by
    have hki:k≠i:=fun e=>by subst e;rw [hun] at hk;cases hk
    rw [hag k (by rw [hlist k hki];exact hk),hg k hki]
   obtain ⟨h1,c,h2,h3,h4⟩:=J.fresh g'' hag' j hj (by rw [hlist j hji] at hl;exact hl) mk b hdj
   refine ⟨h1,c,hs_ext hE.e h2,fun h=>h3 (fun k hk hlk=>h k hk ?_),fun k hk hlk x y hkt=>h4 k hk ?_ x y hkt⟩
   · by_cases hki:k=i
     · subst hki;rw [hun] at hlk;cases hlk
     · rw [hlist k hki];exact hlk
   · have hki:k≠i:=fun e=>by subst e;exact hnt _ _ _ hkt
     rw [hlist k hki] at hlk;exact hlk
 · intro j hj hl ψ hdj
   by_cases hji:j=i
   · subst hji;exact hf ψ hdj
   · rw [hg j hji]
     exact (hper j ψ hj hdj).1 _ _ _ (J.facts j hj (by rw [hlist j hji] at hl;exact hl) ψ hdj) hE

theorem RegJ.step {Q:Exit→Act→World→Prop} {l:List Oper} {s0:RegSt} (hs0:s0=⟨fun _=>a0,[],[],[]⟩) (J:RegJ I acts B ops n a0 d listed a w g) {i:Nat} {o:Oper} (hn:i<n) (ho:ops[i]?=some o) (hlt:i<listed.size) (hr:i∈Region.ready .any ops listed)
 (hns:n≤ops.size) (hnosel:∀cs b,o.op≠.select cs b) (hl:∀j,j<n→l[j]?=ops[j]?) (hcl:∀j oj,ops[j]?=some oj→listed.getD j false=true→∀e∈oj.after,Region.binds .any e=true→listed.getD e.on false=true)
 (hc:∀i o,i<n→ops[i]?=some o→CalmCond ops n i o) (hok:∀j o,j<n→ops[j]?=some o→RegOk P ops I acts B tb j o (regSt l d s0 j) (d j)) (hacts:∀j,j<n→(d j).acts=acts.elem j) (hIE:∀vs w w',I vs w→ExtD w w'→I vs w') (hIT:tb=true→∀vs w b o,I vs w→B≤b→I vs (ChangeMaps.setBlock w b o))
 (hnd:acts.Nodup) (hch:∀i x y,acts[i]?=some x→acts[i+1]?=some y→Anc ops x y)
 {K:Act→World→Prop} (hK:∀a' w' g',RegJ I acts B ops n a0 d (listed.setIfInBounds i true) a' w' g'→K a' w'):wpOp P ops Q i K a w:=by
 obtain ⟨hun',o',ho',hall⟩:=mem_ready.1 hr
 have:o'=o:=Option.some.inj (ho'.symm.trans ho)
 subst this
 have hun:listed.getD i false=false:=getD_both hun'
 have hlist:∀j,j≠i→(listed.setIfInBounds i true).getD j false=listed.getD j false:=fun j h=>getD_set_ne false (Ne.symm h)
 have hanc:∀j,Anc ops j i→listed.getD j false=true:=fun j hj=>anc_listed (fun j hj oj hoj=>hcl j oj hoj hj) hj (fun o'' ho'' e he hb=>by rw [ho'] at ho'';cases ho'';exact hall e he hb)
 have hlistedanc:∀k j,listed.getD k false=true→Anc ops j k→listed.getD j false=true:=fun k j hk hj=>anc_listed (fun j hj oj hoj=>hcl j oj hoj hj) hj (fun o'' ho'' e he hb=>hcl k o'' ho'' hk e he hb)
 have hps0:s0.ps=[]:=by rw [hs0]
 have hfs0:s0.fs=[]:=by rw [hs0]
 have hA0:∀g,s0.A g=a0:=by intro g;rw [hs0]
 have hget:∀j,j<n→∃oj,ops[j]?=some oj:=fun j hj=>⟨ops[j]'(by omega),by simp [show j<ops.size by omega]⟩
 have hper:∀j ψ,j<n→d j=.call ψ→Persist tb B acts ψ:=fun j ψ hj hdj=>by
  obtain ⟨oj,hoj⟩:=hget j hj
  have:=hok j oj hj hoj
  rw [hdj] at this
  exact this.2.1
 have hag:∀(g' g'':Ghs),(∀j,j≠i→g' j=g j)→Agree (listed.setIfInBounds i true) g' g''→Agree listed g g'':=fun g' g'' hg h j hj=>by
  have hji:j≠i:=fun e=>by subst e;rw [hun] at hj;cases hj
  rw [h j (by rw [hlist j hji];exact hj),hg j hji]
 have hsame:∀g'',Agree listed g g''→∀t,t∈o'.looksAt ops→a.tmps[t]?=((regSt l d s0 i).A g'').tmps[t]?:=by
  intro g'' hg'' t ht
  by_cases hex:∃j,j<n∧(ops[j]?).bind (·.dst)=some t
  · obtain ⟨j,hj,hjt⟩:=hex
    obtain ⟨hji,e,he,hb,hon⟩:=(hc i o' hn ho).reads t ht j hj hjt
    have hlj:=hall e he hb
    rw [hon] at hlj
    rw [J.at_ g'' hg'' j hj hlj t hjt,regA_at hA0 (by rw [hl j hj];exact hjt) hji (fun k hk hkj=>?_)]
    rw [hl k (by omega)]
    intro hkt
    rcases Nat.lt_or_ge k j with h | h
    · cases hoj:ops[j]? with
      | none=>rw [hoj] at hjt;cases hjt
      | some oj=>rw [hoj] at hjt;exact (hc j oj hj hoj).once k h t hjt hkt
    · cases hok':ops[k]? with
      | none=>rw [hok'] at hkt;cases hkt
      | some ok=>rw [hok'] at hkt;exact (hc k ok (by omega) hok').once j (by omega) t hkt hjt
  · rw [J.other t (fun j hj _ hjt=>hex ⟨j,hj,hjt⟩),regA_other hA0 (fun j hj hjt=>hex ⟨j,by omega,by rw [←hl j (by omega)];exact hjt⟩)]
 have hexec:∀g'',Agree listed g g''→execOp a.eval o'=execOp ((regSt l d s0 i).A g'').eval o':=fun g'' h=>execOp_same (ops:=ops) o' hnosel (hsame g'' h)
 have hwant:=wanted_same (ops:=ops) o' (hsame g (fun _ _=>rfl))
 have hpre:∀g'',Agree listed g g''→RegPre ops (regSt l d s0 i).ps i g'' w:=by
  intro g'' hg'' p hp hanc'
  obtain ⟨h1,h2⟩:=regSt_ps hps0 i p hp
  have hlp:=hanc _ hanc'
  rw [hg'' _ hlp]
  exact J.facts p.1 (by omega) hlp p.2 h2
 have hOk:=hok i o' hn ho
 have hna:=hacts i hn
 obtain ⟨m,hm1,hm2,hI0⟩:=J.inv
 have hIg:∀g'',Agree listed g g''→I ((acts.take m).map fun x=>(g'' x).v) w:=fun g'' h=>by
  rw [List.map_congr_left (g:=fun x=>(g x).v) (fun x hx=>by
   obtain ⟨q,hq⟩:=List.mem_iff_getElem?.1 hx
   have hqm:=(List.getElem?_eq_some_iff.1 hq).1
   rw [List.length_take] at hqm
   rw [List.getElem?_take,if_pos (by omega)] at hq
   rw [h x ((hm2 q x hq).2 (by omega))])]
  exact hI0
 have hph:Phase ops acts i m:=by
  exact ⟨fun i' x hx hxa=>(hm2 i' x hx).1 (hanc x hxa),fun i' x hx hxa=>Nat.le_of_not_lt fun hlt'=>by
   have:=hlistedanc x i ((hm2 i' x hx).2 hlt') hxa
   rw [hun] at this;cases this⟩
 unfold wpOp
 simp only [ho]
 cases hd:d i<;>rw [hd] at hOk<;>simp only [RegOk] at hOk
 case skip =>
  rw [hwant,hOk g,if_neg (by simp)]
  have:=J.put_ext hn ho hlt hun hc hper (by rw [hd] at hna;exact hna.symm) hIE (by rw [hd];simp) (by rw [hd];simp) (g':=g) (V:=undef) (fun _ _=>rfl) (fun g'' _=>by rw [hd];rfl) (ExtD.refl w) (fun ψ h=>by rw [hd] at h;cases h)
  exact hK _ _ _ this
 case value v =>
  obtain ⟨hw,hv⟩:=hOk
  rw [hwant,hw g,if_pos rfl]
  left
  unfold Oper.wp
  have h0:=hv g w m hph hI0 (hpre g (fun _ _=>rfl))
  rw [hexec g (fun _ _=>rfl),h0]
  simp only [Oper.upon]
  refine hK _ _ g (J.put_ext hn ho hlt hun hc hper (by rw [hd] at hna;exact hna.symm) hIE (by rw [hd];simp) (by rw [hd];simp) (fun _ _=>rfl) (fun g'' hg''=>?_) (ExtD.refl w) (fun ψ h=>by rw [hd] at h;cases h))
  rw [hd]
  have h1:=hag g g'' (fun _ _=>rfl) hg''
  have h2:=hv g'' w m hph (hIg g'' h1) (hpre g'' h1)
  rw [←hexec g'' h1,hexec g (fun _ _=>rfl),h0] at h2
  simp only [Result.ok.injEq,Next.value.injEq,and_true] at h2
  exact h2.symm
 case const v =>
  obtain ⟨hw,hv⟩:=hOk
  rw [hwant,hw g,if_pos rfl]
  left
  unfold Oper.wp
  have h0:=hv g w m hph hI0 (hpre g (fun _ _=>rfl))
  rw [hexec g (fun _ _=>rfl)]
  have fin:∀w',ExtD w w'→K (a.put o'.dst v) w':=fun w' he =>
   hK _ _ g (J.put_ext hn ho hlt hun hc hper (by rw [hd] at hna;exact hna.symm) hIE (by rw [hd];simp) (by rw [hd];simp) (fun _ _=>rfl) (fun g'' hg''=>by rw [hd];rfl) he (fun ψ h=>by rw [hd] at h;cases h))
  generalize (execOp ((regSt l d s0 i).A g).eval o').run P w=r at *
  cases r with
  | halt h w'=>exact h0.elim
  | ok nx w' =>
    cases nx<;>simp only [regUpon] at h0<;>simp only [Oper.upon]
    case value u =>
     obtain ⟨he,rfl⟩:=h0
     exact fin _ he
    case skip =>
     obtain ⟨he,rfl⟩:=h0
     exact fin _ he
    case enter f args =>
     obtain ⟨he,h1⟩:=h0
     exact h1.mono fun e w'' ⟨u,he',hx,hu⟩=>by subst he';subst hu;exact fin _ (he.trans hx)
 case call ψ =>
  obtain ⟨hw,hp,hv⟩:=hOk
  rw [hwant,hw g,if_pos rfl]
  left
  unfold Oper.wp
  have h0:=hv g w m hph hI0 (hpre g (fun _ _=>rfl))
  rw [hexec g (fun _ _=>rfl)]
  have fin:∀u w',ExtD w w'→ψ u w'→K (a.put o'.dst u) w':=fun u w' he hψ =>
   hK _ _ (fun j=>if j=i then ⟨0,u⟩ else g j) (J.put_ext hn ho hlt hun hc hper (by rw [hd] at hna;exact hna.symm) hIE (by rw [hd];simp) (by rw [hd];simp) (fun j hj=>by simp [hj]) (fun g'' hg''=>by rw [hd];simp only [RegD.val];rw [hg'' i (getD_set_self hlt)];simp) he
    (fun ψ' h=>by rw [hd] at h;cases h;simpa using hψ))
  generalize (execOp ((regSt l d s0 i).A g).eval o').run P w=r at *
  cases r with
  | halt h w'=>exact h0.elim
  | ok nx w' =>
    cases nx<;>simp only [regUpon] at h0<;>simp only [Oper.upon]
    case value u =>
     obtain ⟨he,hu⟩:=h0
     exact fin _ _ he hu
    case skip =>
     obtain ⟨he,hu⟩:=h0
     exact fin _ _ he hu
    case enter f args =>
     obtain ⟨he,h1⟩:=h0
     exact h1.mono fun e w'' ⟨u,he',hx,hu⟩=>by subst he';exact fin _ _ (he.trans hx) hu
 case fresh mk ob =>
  obtain ⟨hw,hv⟩:=hOk
  rw [hwant,hw g,if_pos rfl]
  left
  unfold Oper.wp
  have h0:=hv g w m hph hI0 (hpre g (fun _ _=>rfl))
  rw [hexec g (fun _ _=>rfl),h0]
  simp only [Oper.upon]
  have hgg:∀j,j≠i→(fun j=>if j=i then (⟨w.heap.size,undef⟩:Gh) else g j) j=g j:=fun j hj=>by simp [hj]
  have hE:ExtD w (w.alloc (ob g)):=ExtD.alloc w _
  refine hK _ _ (fun j=>if j=i then ⟨w.heap.size,undef⟩ else g j) (J.put hn ho hlt hun hc hgg (fun g'' hg''=>?_) (Nat.le_trans J.lo hE.size) (J.inv_keep (by rw [hd] at hna;exact hna.symm) hgg (fun vs h=>hIE _ _ _ h hE)) ?_ ?_ ?_)
  · rw [hd];simp only [RegD.val];rw [hg'' i (getD_set_self hlt)];simp
  · intro g'' hg'' j hj hl' mk' b' hdj
    have h1:=hag _ g'' hgg hg''
    by_cases hji:j=i
    · subst hji
      rw [hd] at hdj;cases hdj
      have h2:=hv g'' w m hph (hIg g'' h1) (hpre g'' h1)
      rw [←hexec g'' h1,hexec g (fun _ _=>rfl),h0] at h2
      simp only [Result.ok.injEq,true_and] at h2
      rw [hg'' j (getD_set_self hlt)]
      simp only [if_true]
      refine ⟨J.lo,ob g'',by rw [h2];exact hs_new,fun _=>rfl,fun k hk hlk x y hkt=>?_⟩
      exfalso
      have hkj:k≠j:=fun e=>by subst e;rw [hd] at hkt;cases hkt
      obtain ⟨ok,hok'⟩:=hget k hk
      have:=hok k ok hk hok'
      rw [hkt] at this
      have:=hlistedanc k j (by rw [hlist k hkj] at hlk;exact hlk) this.2.2.2.1
      rw [hun] at this;cases this
    · obtain ⟨h2,c,h3,h4,h5⟩:=J.fresh g'' h1 j hj (by rw [hlist j hji] at hl';exact hl') mk' b' hdj
      refine ⟨h2,c,hs_ext hE.e h3,fun h=>h4 (fun k hk hlk=>h k hk ?_),fun k hk hlk x y hkt=>h5 k hk ?_ x y hkt⟩
      · by_cases hki:k=i
        · subst hki;rw [hun] at hlk;cases hlk
        · rw [hlist k hki];exact hlk
      · have hki:k≠i:=fun e=>by subst e;rw [hd] at hkt;cases hkt
        rw [hlist k hki] at hlk;exact hlk
  · intro j hj hji hlj mk' b' hdj _ _ _
    obtain ⟨-,c,h3,-⟩:=J.fresh g (fun _ _=>rfl) j hj hlj mk' b' hdj
    have:=(Array.getElem?_eq_some_iff.1 h3).1
    simp only [if_true]
    omega
  · intro j hj hl' ψ hdj
    have hji:j≠i:=fun e=>by subst e;rw [hd] at hdj;cases hdj
    simp only [hji,if_false]
    exact (hper j ψ hj hdj).1 _ _ _ (J.facts j hj (by rw [hlist j hji] at hl';exact hl') ψ hdj) hE
 case turn p b b' =>
  obtain ⟨hw,htb,hmem,hap,hmap,hv⟩:=hOk
  rw [hwant,hw g,if_pos rfl]
  left
  unfold Oper.wp
  have hpl:=hanc p hap
  have hturn : ∀ k p x y,k<n→d k=.turn p x y→p<k:=fun k p x y hk hkt=>by
   obtain ⟨ok,hok'⟩:=hget k hk
   have:=hok k ok hk hok'
   rw [hkt] at this
   have hm:=this.2.2.1
   -- an element of fs is below its index
   clear this
   have gen : ∀ m, ∀ q∈(regSt l d s0 m).fs,q.1<m:=by
    intro m
    induction m with
    | zero=>intro q hq;simp [regSt,hfs0] at hq
    | succ m ih =>
      intro q hq
      simp only [regSt,RegSt.next] at hq
      cases hdm:d m<;>rw [hdm] at hq<;>simp only [List.mem_cons,List.mem_filter] at hq
      case fresh => rcases hq with rfl | hq
                    · simp
                    · have:=ih q hq;omega
      case turn=>have:=ih q hq.1;omega
      all_goals (have:=ih q hq;omega)
   exact gen k _ hm
  obtain ⟨hpi,⟨mk0,hdp⟩,hno⟩:=regSt_fs (l:=l) (d:=d) (s0:=s0) hfs0 i (fun k p x y hk=>hturn k p x y (by omega)) (p,b) hmem
  simp only at hpi hdp hno
  have honly:∀k,k<n→∀x y,d k=.turn p x y→k=i:=by
   intro k hk x y hkt
   rcases Nat.lt_trichotomy k i with h | h | h
   · exact absurd hkt (hno k h x y)
   · exact h
   · obtain ⟨ok,hok'⟩:=hget k hk
     have:=hok k ok hk hok'
     rw [hkt] at this
     obtain ⟨-,-,h3⟩:=regSt_fs (l:=l) (d:=d) (s0:=s0) hfs0 k (fun k' p x y hk'=>hturn k' p x y (by omega)) (p,x) this.2.2.1
     exact absurd hd (h3 i h b b')
  have hblk:∀g'',Agree listed g g''→B≤(g'' p).n∧w.heap[(g'' p).n]?=some (b g''):=by
   intro g'' hg''
   obtain ⟨h1,c,h2,h3,-⟩:=J.fresh g'' hg'' p (by omega) hpl mk0 b hdp
   have e:=h3 (fun k hk hlk x y hkt=>by
    have:=honly k hk x y hkt
    subst this
    rw [hun] at hlk;cases hlk)
   exact ⟨h1,by rw [h2,e]⟩
  obtain ⟨hB,hb0⟩:=hblk g (fun _ _=>rfl)
  obtain ⟨x,h0,hx⟩:=hv g w m hph hI0 (hpre g (fun _ _=>rfl)) hb0
  rw [hexec g (fun _ _=>rfl),h0]
  have key:K (a.put o'.dst undef) (ChangeMaps.setBlock w (g p).n (b' g)):=by
   refine hK _ _ g (J.put hn ho hlt hun hc (fun _ _=>rfl) (fun g'' hg''=>by rw [hd];rfl) (by simpa [ChangeMaps.setBlock] using J.lo) (J.inv_keep (by rw [hd] at hna;exact hna.symm) (fun _ _=>rfl) (fun vs h=>hIT htb _ _ _ _ h hB)) ?_ (fun j _ _ _ _ _ _ mk' c' h=>by rw [hd] at h;cases h) ?_)
   · intro g'' hg'' j hj hl' mk' c' hdj
     have h1:=hag g g'' (fun _ _=>rfl) hg''
     have hji:j≠i:=fun e=>by subst e;rw [hd] at hdj;cases hdj
     have hlj:listed.getD j false=true:=by rw [hlist j hji] at hl';exact hl'
     by_cases hjp:j=p
     · subst hjp
       rw [hdp] at hdj;cases hdj
       obtain ⟨hB',hb1⟩:=hblk g'' h1
       obtain ⟨x',h2,-⟩:=hv g'' w m hph (hIg g'' h1) (hpre g'' h1) hb1
       rw [←hexec g'' h1,hexec g (fun _ _=>rfl),h0] at h2
       simp only [Result.ok.injEq] at h2
       rw [h2.2]
       refine ⟨hB',b' g'',reg_turned_same hb1,fun h=>absurd hd (h i hn (getD_set_self hlt) b b'),fun k hk _ x y hkt=>?_⟩
       have:=honly k hk x y hkt
       subst this
       rw [hd] at hkt;cases hkt;rfl
     · obtain ⟨h2,c,h3,h4,h5⟩:=J.fresh g'' h1 j hj hlj mk' c' hdj
       have hne:(g'' j).n≠(g p).n:=by
        rw [h1 j hlj]
        exact J.apart j p hj (by omega) hlj hpl hjp _ _ _ _ hdj hdp
       refine ⟨h2,c,by rw [reg_turned_block hne];exact h3,fun h=>h4 (fun k hk hlk=>h k hk ?_),fun k hk hlk x y hkt=>h5 k hk ?_ x y hkt⟩
       · by_cases hki:k=i
         · subst hki;rw [hun] at hlk;cases hlk
         · rw [hlist k hki];exact hlk
       · have hki:k≠i:=fun e=>by subst e;rw [hd] at hkt;cases hkt;exact hjp rfl
         rw [hlist k hki] at hlk;exact hlk
   · intro j hj hl' ψ hdj
     have hji:j≠i:=fun e=>by subst e;rw [hd] at hdj;cases hdj
     obtain ⟨es,cl,hm⟩:=hmap g
     exact (hper j ψ hj hdj).2.1 htb _ _ _ es cl _ (J.facts j hj (by rw [hlist j hji] at hl';exact hl') ψ hdj) (by rw [hb0,hm])
  rcases hx with rfl | rfl
  · exact key
  · exact key
 case act =>
  obtain ⟨hw,htb,i0,hi0,hv⟩:=hOk
  rw [hwant,hw g,if_pos rfl]
  left
  unfold Oper.wp
  have hnl:¬i0<m:=fun h=>by have:=(hm2 i0 i hi0).2 h;rw [hun] at this;cases this
  have hi0l:i0<acts.length:=(List.getElem?_eq_some_iff.1 hi0).1
  have hmi:m=i0:=by
   rcases Nat.eq_zero_or_pos i0 with h | h
   · omega
   · obtain ⟨y,hy⟩:∃y,acts[i0-1]?=some y:=⟨acts[i0-1]'(by omega),by simp [show i0-1<acts.length by omega]⟩
     have h1:=hch (i0-1) y i hy (by rw [show i0-1+1=i0 by omega];exact hi0)
     have:=(hm2 (i0-1) y hy).1 (hanc y h1)
     omega
  subst hmi
  have hfr:RegFr ops B (regSt l d s0 i).fs i g w:=by
   intro p hp hanc'
   have hnt:∀k p x y,k<n→d k≠.turn p x y:=fun k p x y hk hkt=>by
    obtain ⟨ok,hok2⟩:=hget k hk
    have:=hok k ok hk hok2
    rw [hkt] at this
    have:=this.2.1
    rw [htb] at this;cases this
   obtain ⟨h1,⟨mk,h2⟩,-⟩:=regSt_fs (l:=l) (d:=d) (s0:=s0) hfs0 i (fun k p x y hk hkt=>absurd hkt (hnt k p x y (by omega))) p hp
   have hlp:=hanc _ hanc'
   obtain ⟨h3,c,h4,h5,-⟩:=J.fresh g (fun _ _=>rfl) p.1 (by omega) hlp mk p.2 h2
   exact ⟨by rw [h4,h5 (fun k hk _ x y hkt=>hnt k _ x y hk hkt)],h3⟩
  obtain ⟨x,v,w',hrun,hx,hA,hI1⟩:=hv g w hI0 (hpre g (fun _ _=>rfl)) hfr J.lo
  rw [hexec g (fun _ _=>rfl),hrun]
  have hgg:∀j,j≠i→(fun j=>if j=i then (⟨0,v⟩:Gh) else g j) j=g j:=fun j hj=>by simp [hj]
  have key:K (a.put o'.dst v) w':=by
   refine hK _ _ (fun j=>if j=i then ⟨0,v⟩ else g j) (J.put hn ho hlt hun hc hgg (fun g'' hg''=>by rw [hd];simp only [RegD.val];rw [hg'' i (getD_set_self hlt)];simp) (Nat.le_trans J.lo hA.1) ?_ ?_ (fun j _ _ _ _ _ _ mk' c' h=>by rw [hd] at h;cases h) ?_)
   · refine ⟨m+1,by omega,fun i' x hx=>?_,?_⟩
     · by_cases hxi:x=i
       · subst hxi
         have:i'=m:=(List.getElem?_inj (List.getElem?_eq_some_iff.1 hx).1 hnd).1 (hx.trans hi0.symm)
         subst this
         simp [getD_set_self hlt]
       · rw [hlist x hxi,hm2 i' x hx]
         have:i'≠m:=fun e=>by subst e;rw [hi0] at hx;cases hx;exact hxi rfl
         omega
     · rw [List.take_add_one,hi0,List.map_append]
       have hne:∀x∈acts.take m,x≠i:=fun x hx e=>by
        subst e
        obtain ⟨q,hq⟩:=List.mem_iff_getElem?.1 hx
        have hqm:=(List.getElem?_eq_some_iff.1 hq).1
        rw [List.length_take] at hqm
        rw [List.getElem?_take] at hq
        rw [if_pos (by omega)] at hq
        have:=(List.getElem?_inj (List.getElem?_eq_some_iff.1 hq).1 hnd).1 (hq.trans hi0.symm)
        omega
       rw [List.map_congr_left (g:=fun x=>(g x).v) (fun x hx=>by rw [if_neg (hne x hx)])]
       simpa using hI1
   · intro g'' hg'' j hj hl' mk' c' hdj
     have h1:=hag _ g'' hgg hg''
     have hji:j≠i:=fun e=>by subst e;rw [hd] at hdj;cases hdj
     obtain ⟨h2,c,h3,h4,h5⟩:=J.fresh g'' h1 j hj (by rw [hlist j hji] at hl';exact hl') mk' c' hdj
     refine ⟨h2,c,by rw [hA.2 _ h2 (Array.getElem?_eq_some_iff.1 h3).1];exact h3,fun h=>h4 (fun k hk hlk=>h k hk ?_),fun k hk hlk x y hkt=>h5 k hk ?_ x y hkt⟩
     · by_cases hki:k=i
       · subst hki;rw [hun] at hlk;cases hlk
       · rw [hlist k hki];exact hlk
     · have hki:k≠i:=fun e=>by subst e;rw [hd] at hkt;cases hkt
       rw [hlist k hki] at hlk;exact hlk
   · intro j hj hl' ψ hdj
     have hji:j≠i:=fun e=>by subst e;rw [hd] at hdj;cases hdj
     simp only [hji,if_false]
     exact (hper j ψ hj hdj).2.2 (fun e=>by rw [e] at hi0;simp at hi0) _ _ _ (J.facts j hj (by rw [hlist j hji] at hl';exact hl') ψ hdj) hA
  rcases hx with rfl | ⟨rfl,rfl⟩
  · exact key
  · exact key
end

section
variable {P : Program} {ops : Array Oper} {n : Nat} {I : List Value → World → Prop} {acts : List Nat} {B : Nat} {tb : Bool} {a0 : Act} {d : Nat → RegD}
theorem reg_any {Q:Exit→Act→World→Prop} {l:List Oper} {s0:RegSt} {m:Nat} (hns:n≤ops.size) (hnosel:Region.noSelect ops=true) (htail:n=ops.size∨Region.sinkB .any ops n=true∧Region.chainB .any ops n=true) (hl:∀j,j<n→l[j]?=ops[j]?)
 (hs0:s0=⟨fun _=>a0,[],[],[]⟩)
 (hc:∀i o,i<n→ops[i]?=some o→CalmCond ops n i o) (hok:∀j o,j<n→ops[j]?=some o→RegOk P ops I acts B tb j o (regSt l d s0 j) (d j)) (hacts:∀j,j<n→(d j).acts=acts.elem j) (hIE:∀vs w w',I vs w→ExtD w w'→I vs w') (hIT:tb=true→∀vs w b o,I vs w→B≤b→I vs (ChangeMaps.setBlock w b o))
 (hndA:acts.Nodup) (hch:∀i x y,acts[i]?=some x→acts[i+1]?=some y→Anc ops x y)
 (hfin:∀a w g,RegJ I acts B ops n a0 d (headListed ops.size n) a w g→wpAny P .any ops Q m (headListed ops.size n) a w) :
 ∀ (f:Nat) (rem:List Nat) (listed:Array Bool) (a:Act) (w:World) (g:Ghs),rem.length=f→rem.Nodup→(∀i,i∈rem↔i<n∧listed.getD i false=false)→HeadInv .any ops n listed →
   RegJ I acts B ops n a0 d listed a w g→wpAny P .any ops Q (f+m) listed a w
 | 0, rem,listed,a,w,g,hf,_,hrem,inv,J=>by
   have hr0:rem=[]:=List.length_eq_zero_iff.1 hf
   subst hr0
   have : listed=headListed ops.size n:=by
    apply Array.ext_getElem?
    intro i
    rcases Nat.lt_or_ge i ops.size with h | h
    · have h1:i<listed.size:=by rw [inv.size];exact h
      have e2:(headListed ops.size n)[i]?=some (decide (i<n)):=by simp [headListed,h]
      rw [e2]
      by_cases hin:i<n
      · have:=(hrem i)
        simp only [List.not_mem_nil,false_iff,not_and] at this
        have h2:=this hin
        simp [h1] at h2 ⊢
        simp [h2,hin]
      · have h2:=inv.tail i (by omega) h
        simp [h1] at h2 ⊢
        simp [h2,hin]
    · have h1:listed.size≤i:=by rw [inv.size];exact h
      simp [headListed,h1,h]
   subst this
   rw [Nat.zero_add]
   exact hfin a w g J
 | f + 1, rem,listed,a,w,g,hf,hnd,hrem,inv,J=>by
   obtain ⟨i0,hi0⟩:∃i,i∈rem:=by
    cases rem with
    | nil=>cases hf
    | cons x r=>exact ⟨x,by simp⟩
   have hready:∀j,j∈Region.ready .any ops listed→j<n:=by
    intro j hj
    rcases Nat.lt_or_ge j n with h | h
    · exact h
    · obtain ⟨h1,h2⟩:=(hrem i0).1 hi0
      rcases htail with ht | ⟨hs,hch⟩
      · obtain ⟨_,o,ho,_⟩:=mem_ready.1 hj
        have:=(Array.getElem?_eq_some_iff.1 ho).1
        omega
      · have hnlt:n<ops.size:=by
         obtain ⟨_,o,ho,_⟩:=mem_ready.1 hj
         have:=(Array.getElem?_eq_some_iff.1 ho).1
         omega
        exact absurd hj (tail_waits hs hch hnlt inv _ i0 rfl h1 (getD_in (by rw [inv.size];omega) h2) j h)
   have hne:Region.ready .any ops listed≠[]:=by
    -- the least operation of the head that is left is ready
    have hmin:∀(d i:Nat),i=d→i∈rem→∃j,j∈Region.ready .any ops listed:=by
     intro d
     induction d using Nat.strongRecOn with
     | _ d ih =>
       intro i hd hi
       obtain ⟨h1,h2⟩:=(hrem i).1 hi
       obtain ⟨o,ho⟩:∃o,ops[i]?=some o:=⟨ops[i]'(by omega),by simp [show i<ops.size by omega]⟩
       by_cases hall:∀e∈o.after,Region.binds .any e=true→listed.getD e.on false=true
       · exact ⟨i,mem_ready.2 ⟨getD_in (by rw [inv.size];omega) h2,o,ho,hall⟩⟩
       · obtain ⟨e,he,hb,hne⟩:∃e,e∈o.after∧Region.binds .any e=true∧¬listed.getD e.on false=true:=by
          apply Classical.byContradiction
          intro hno
          exact hall fun e he hb=>Classical.byContradiction fun hx=>hno ⟨e,he,hb,hx⟩
         have hlt:=(hc i o h1 ho).before e he hb
         exact ih e.on (by omega) e.on rfl ((hrem e.on).2 ⟨by omega,by simpa using hne⟩)
    obtain ⟨j,hj⟩:=hmin i0 i0 rfl hi0
    intro h0;rw [h0] at hj;cases hj
   rw [show f+1+m=(f+m)+1 by omega]
   refine ⟨fun h0=>absurd h0 hne,fun i hi=>?_⟩
   have hin:=hready i hi
   obtain ⟨hun,o,ho,_⟩:=mem_ready.1 hi
   have hsz:i<listed.size:=by rw [inv.size];exact (Array.getElem?_eq_some_iff.1 ho).1
   refine J.step hs0 hin ho hsz hi hns (fun cs b=>Region.noSelect_spec hnosel i o cs b ho) hl inv.closed hc hok hacts hIE hIT hndA hch (fun a' w' g' J'=>?_)
   have hmem:i∈rem:=(hrem i).2 ⟨hin,getD_both hun⟩
   refine reg_any hns hnosel htail hl hs0 hc hok hacts hIE hIT hndA hch hfin f (rem.erase i) _ a' w' g' (by rw [List.length_erase_of_mem hmem];omega) (hnd.erase i) (fun j=>?_) (inv.set hi hin) J'
   rw [hnd.mem_erase_iff,hrem]
   by_cases hji:j=i
   · subst hji
     simp [hsz]
   · rw [getD_set_ne false (Ne.symm hji)]
     simp [hji]
end

/-- A REGION THAT DRAWS ITS ORDER: one walk in the order of the text. -/
theorem wp_region_act {P:Program} {id:Nat} {Q:Exit→Act→World→Prop} {a:Act} {w:World} {l:List Oper} (n:Nat) (tb:Bool) (I:List Value→World→Prop) (acts:List Nat) (hm:P.follows .mixedOrders=true) (hB:calmB l.toArray n=true)
 (hIE:∀vs w w',I vs w→ExtD w w'→I vs w') (hIT:tb=true→∀vs w' b o,I vs w'→w.heap.size≤b→I vs (ChangeMaps.setBlock w' b o)) (hndA:acts.Nodup) (hlt:∀x∈acts,x<n) (hch:∀i x y,acts[i]?=some x→acts[i+1]?=some y→Anc l.toArray x y) (hI0:I [] w)
 (h:wpReg P l.toArray I acts w.heap.size tb (fun s=>∀g w',I (acts.map fun x=>(g x).v) w'→RegFresh w.heap.size (s.fs++s.ts) g w'→(∀p∈s.ps,p.2 (g p.1).v w')→wpList P l.toArray Q (l.drop n) (s.A g) w') 0 (l.take n) ⟨fun _=>a,[],[],[]⟩):(Code.region id l.toArray true).wp P Q a w:=by
 have hc:=calmB_cond hB
 simp only [calmB,Bool.and_eq_true,decide_eq_true_eq,Bool.or_eq_true] at hB
 obtain ⟨⟨⟨⟨hnosel,hns⟩,htail⟩,hseq⟩,-⟩:=hB
 have hns':n≤l.length:=by simpa using hns
 have hlen:(l.take n).length=n:=by simp;omega
 have hl:∀j,j<n→(l.take n)[j]?=l.toArray[j]?:=fun j hj=>by simp [hj]
 obtain ⟨d,hok,hQ⟩:=reg_specs (l.take n) ⟨fun _=>a,[],[],[]⟩ (l.take n) 0 (fun _=>.skip) (fun j=>by simp) (fun i o hi=>by omega) h
 rw [Nat.zero_add,hlen] at hQ
 rw [Nat.zero_add,hlen] at hok
 have hok':∀j o,j<n→l.toArray[j]?=some o→RegOk P l.toArray I acts w.heap.size tb j o (regSt (l.take n) d ⟨fun _=>a,[],[],[]⟩ j) (d j):=fun j o hj ho=>(hok j o hj (by rw [hl j hj];exact ho)).1
 have hacts:∀j,j<n→(d j).acts=acts.elem j:=fun j hj=>(hok j (l[j]'(by omega)) hj (by rw [List.getElem?_take,if_pos hj];exact List.getElem?_eq_getElem (by omega))).2
 have hget:∀j,j<n→∃oj,l.toArray[j]?=some oj:=fun j hj=>⟨l[j]'(by omega),by simp [show j<l.length by omega]⟩
 have gen : ∀ m, ∀ q∈(regSt (l.take n) d ⟨fun _=>a,[],[],[]⟩ m).fs,q.1<m:=by
  intro m
  induction m with
  | zero=>intro q hq;simp [regSt] at hq
  | succ m ih =>
    intro q hq
    simp only [regSt,RegSt.next] at hq
    cases hdm:d m<;>rw [hdm] at hq<;>simp only [List.mem_cons,List.mem_filter] at hq
    case fresh => rcases hq with rfl | hq
                  · simp
                  · have:=ih q hq;omega
    case turn=>have:=ih q hq.1;omega
    all_goals (have:=ih q hq;omega)
 have hin:∀k p b b',k<n→d k=.turn p b b'→(p,b)∈(regSt (l.take n) d ⟨fun _=>a,[],[],[]⟩ k).fs:=fun k p x y hk hkt=>by
  obtain ⟨ok,hok2⟩:=hget k hk
  have:=hok' k ok hk hok2
  rw [hkt] at this
  exact this.2.2.1
 have hturn:∀k p b b',k<n→d k=.turn p b b'→p<k:=fun k p x y hk hkt=>gen k _ (hin k p x y hk hkt)
 refine wp_region_any hm ?_
 have key := reg_any (P:=P) (ops:=l.toArray) (I:=I) (acts:=acts) (B:=w.heap.size) (tb:=tb) (a0:=a) (d:=d) (Q:=Q) (l:=l.take n) (s0:=⟨fun _=>a,[],[],[]⟩) (m:=l.toArray.size-n) hns hnosel htail hl rfl hc hok' hacts hIE hIT hndA hch
  (fun a' w' g J=>by
    have hfr:a'=(regSt (l.take n) d ⟨fun _=>a,[],[],[]⟩ n).A g:=by
     have h1:a'.defers=((regSt (l.take n) d ⟨fun _=>a,[],[],[]⟩ n).A g).defers:=by rw [J.defers,regA_defers (fun _=>rfl)]
     have hall:∀i,i<n→(headListed l.toArray.size n).getD i false=true:=fun i hi=>by
      have:i<l.length:=by omega
      simp [headListed,hi,this]
     have h2:a'.tmps=((regSt (l.take n) d ⟨fun _=>a,[],[],[]⟩ n).A g).tmps:=by
      apply Array.ext_getElem?
      intro t
      by_cases hex:∃j,j<n∧(l.toArray[j]?).bind (·.dst)=some t
      · obtain ⟨j,hj,hjt⟩:=hex
        rw [J.at_ g (fun _ _=>rfl) j hj (hall j hj) t hjt,regA_at (fun _=>rfl) (by rw [hl j hj];exact hjt) hj (fun k hk hkj=>?_)]
        rw [hl k hk]
        intro hkt
        rcases Nat.lt_or_ge k j with h | h
        · cases hoj:l.toArray[j]? with
          | none=>rw [hoj] at hjt;cases hjt
          | some oj=>rw [hoj] at hjt;exact (hc j oj hj hoj).once k h t hjt hkt
        · cases hok2:l.toArray[k]? with
          | none=>rw [hok2] at hkt;cases hkt
          | some ok=>rw [hok2] at hkt;exact (hc k ok hk hok2).once j (by omega) t hkt hjt
      · rw [J.other t (fun j hj _ hjt=>hex ⟨j,hj,hjt⟩),regA_other (fun _=>rfl) (fun j hj hjt=>hex ⟨j,hj,by rw [←hl j hj];exact hjt⟩)]
     cases a';cases hF:(regSt (l.take n) d ⟨fun _=>a,[],[],[]⟩ n).A g
     rw [hF] at h1 h2
     simp only at h1 h2
     rw [h1,h2]
    have hall:∀i,i<n→(headListed l.toArray.size n).getD i false=true:=fun i hi=>by
     have:i<l.length:=by omega
     simp [headListed,hi,this]
    have hfs:=regSt_fs (l:=l.take n) (d:=d) (s0:=⟨fun _=>a,[],[],[]⟩) rfl n hturn
    have hts:=regSt_ts (l:=l.take n) (d:=d) (s0:=⟨fun _=>a,[],[],[]⟩) rfl n
    have hps:=regSt_ps (l:=l.take n) (d:=d) (s0:=⟨fun _=>a,[],[],[]⟩) rfl n
    have hnd:=regSt_nodup (l:=l.take n) (d:=d) (s0:=⟨fun _=>a,[],[],[]⟩) rfl rfl n hin hturn
    have hmk:∀p∈(regSt (l.take n) d ⟨fun _=>a,[],[],[]⟩ n).fs++(regSt (l.take n) d ⟨fun _=>a,[],[],[]⟩ n).ts,p.1<n∧(∃mk b,d p.1=.fresh mk b)∧w'.heap[(g p.1).n]?=some (p.2 g)∧w.heap.size≤(g p.1).n:=by
     intro p hp
     rcases List.mem_append.1 hp with hp | hp
     · obtain ⟨h1,⟨mk,h2⟩,h3⟩:=hfs p hp
       obtain ⟨h4,c,h5,h6,-⟩:=J.fresh g (fun _ _=>rfl) p.1 h1 (hall _ h1) mk p.2 h2
       exact ⟨h1,⟨mk,_,h2⟩,by rw [h5,h6 (fun k hk _ x y=>h3 k hk x y)],h4⟩
     · obtain ⟨k,b,hk,hkt⟩:=hts p hp
       have hpk:=hturn k _ _ _ hk hkt
       obtain ⟨-,⟨mk,h2⟩,-⟩:=regSt_fs (l:=l.take n) (d:=d) (s0:=⟨fun _=>a,[],[],[]⟩) rfl k (fun k' p x y hk'=>hturn k' p x y (by omega)) (p.1,b) (hin k _ _ _ hk hkt)
       obtain ⟨h4,c,h5,-,h6⟩:=J.fresh g (fun _ _=>rfl) p.1 (by omega) (hall _ (by omega)) mk b h2
       exact ⟨by omega,⟨mk,_,h2⟩,by rw [h5,h6 k hk (hall k hk) _ _ hkt],h4⟩
    have hfresh:RegFresh w.heap.size ((regSt (l.take n) d ⟨fun _=>a,[],[],[]⟩ n).fs++(regSt (l.take n) d ⟨fun _=>a,[],[],[]⟩ n).ts) g w':=by
     refine ⟨J.lo,fun p hp=>(hmk p hp).2.2,?_⟩
     unfold List.Nodup at hnd
     rw [List.pairwise_map] at hnd
     refine hnd.imp_of_mem (fun {p q} hp hq hpq=>?_)
     obtain ⟨h1,⟨mk,b,h2⟩,-⟩:=hmk p hp
     obtain ⟨h3,⟨mk',b',h4⟩,-⟩:=hmk q hq
     exact J.apart _ _ h1 h3 (hall _ h1) (hall _ h3) hpq _ _ _ _ h2 h4
    have hfacts:∀p∈(regSt (l.take n) d ⟨fun _=>a,[],[],[]⟩ n).ps,p.2 (g p.1).v w':=fun p hp=>by
     obtain ⟨h1,h2⟩:=hps p hp
     exact J.facts _ h1 (hall _ h1) _ h2
    have hIf:I (acts.map fun x=>(g x).v) w':=by
     obtain ⟨m,h1,h2,h3⟩:=J.inv
     have:m=acts.length:=by
      rcases Nat.lt_or_ge m acts.length with h | h
      · have:=(h2 m acts[m] (by simp [h])).1 (hall _ (hlt _ (List.getElem_mem h)))
        omega
      · omega
     subst this
     rwa [List.take_length] at h3
    have hw:=hQ g w' hIf hfresh hfacts
    rw [←hfr] at hw
    have hdl:(l.drop n).length=l.toArray.size-n:=by simp
    rw [←hdl] at hseq ⊢
    exact wpAny_of_seq (l.drop n) n _ _ _ (fun j=>by simp) hseq hw)
  n (List.range n) (Array.replicate l.toArray.size false) a w.drew (fun _=>default) (by simp) List.nodup_range (fun i=>by rw [getD_replicate_false];simp)
  ⟨by simp,fun j oj _ hl=>(by rw [getD_replicate_false] at hl;cases hl),fun t _ ht=>getD_in (by simpa using ht) (getD_replicate_false _ _)⟩
  ⟨Nat.le_refl _,⟨0,Nat.zero_le _,fun i x hx=>by rw [getD_replicate_false];simp,by simpa using hIE _ _ _ hI0 (ExtD.drew w)⟩,rfl,fun _ _ i _ hl=>(by rw [getD_replicate_false] at hl;cases hl),fun _ _=>rfl,fun _ _ i _ hl=>(by rw [getD_replicate_false] at hl;cases hl),fun i _ _ _ hl=>(by rw [getD_replicate_false] at hl;cases hl),fun i _ hl=>(by rw [getD_replicate_false] at hl;cases hl)⟩
 rw [show n+(l.toArray.size-n)=l.toArray.size by omega] at key
 exact key

theorem wp_region_reg {P:Program} {id:Nat} {Q:Exit→Act→World→Prop} {a:Act} {w:World} {l:List Oper} (n:Nat) (tb:Bool) (hm:P.follows .mixedOrders=true) (hB:calmB l.toArray n=true)
 (h:wpReg P l.toArray (fun _ w'=>ExtD w w') [] w.heap.size tb (fun s=>∀g w',ExtD w w'→RegFresh w.heap.size (s.fs++s.ts) g w'→(∀p∈s.ps,p.2 (g p.1).v w')→wpList P l.toArray Q (l.drop n) (s.A g) w') 0 (l.take n) ⟨fun _=>a,[],[],[]⟩):(Code.region id l.toArray true).wp P Q a w :=
 wp_region_act n tb (fun _ w'=>ExtD w w') [] hm hB (fun _ _ _ h k=>h.trans k) (fun _ _ _ _ _ h hb=>reg_turned_ext h hb) (by simp) (by simp) (by simp) (ExtD.refl w) h

end D
end Go.Proofs.YtclijngnoepbiaaGreat
