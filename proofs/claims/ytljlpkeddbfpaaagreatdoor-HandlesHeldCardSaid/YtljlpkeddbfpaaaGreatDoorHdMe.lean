/- Which function each thing's methods are. -/
import Derived.Test.YtljlpkeddbfpaaaGreatDoorHdL
namespace Go.Proofs.YtljlpkeddbfpaaaGreatDoor.Hd
open Go.RowKit Go.Maps Go.Proofs.YtljlpkeddbfpaaaGreatDoor Go.Proofs.YtljlpkeddbfpaaaGreatDoor.Hp
set_option linter.unusedVariables false

theorem meth_file_info (b : Nat) (w : World) : (method 385 83 (pp b) "whelk/handles.info").run Tryz.prog w = .ok (206, pp b) w := by kernel_rfl
theorem meth_file_read (b : Nat) (w : World) : (method 385 83 (pp b) "whelk/handles.read").run Tryz.prog w = .ok (207, pp b) w := by kernel_rfl
theorem meth_file_write (b : Nat) (w : World) : (method 385 83 (pp b) "whelk/handles.write").run Tryz.prog w = .ok (208, pp b) w := by kernel_rfl
theorem meth_file_gone (b : Nat) (w : World) : (method 385 83 (pp b) "whelk/handles.gone").run Tryz.prog w = .ok (205, pp b) w := by kernel_rfl
theorem meth_text_info (b : Nat) (w : World) : (method 385 105 (pp b) "whelk/handles.info").run Tryz.prog w = .ok (212, pp b) w := by kernel_rfl
theorem meth_text_read (b : Nat) (w : World) : (method 385 105 (pp b) "whelk/handles.read").run Tryz.prog w = .ok (213, pp b) w := by kernel_rfl
theorem meth_text_write (b : Nat) (w : World) : (method 385 105 (pp b) "whelk/handles.write").run Tryz.prog w = .ok (214, pp b) w := by kernel_rfl
theorem meth_text_gone (b : Nat) (w : World) : (method 385 105 (pp b) "whelk/handles.gone").run Tryz.prog w = .ok (211, pp b) w := by kernel_rfl
theorem meth_sink_info (b : Nat) (w : World) : (method 385 116 (pp b) "whelk/handles.info").run Tryz.prog w = .ok (233, pp b) w := by kernel_rfl
theorem meth_sink_read (b : Nat) (w : World) : (method 385 116 (pp b) "whelk/handles.read").run Tryz.prog w = .ok (234, pp b) w := by kernel_rfl
theorem meth_sink_write (b : Nat) (w : World) : (method 385 116 (pp b) "whelk/handles.write").run Tryz.prog w = .ok (235, pp b) w := by kernel_rfl
theorem meth_sink_gone (b : Nat) (w : World) : (method 385 116 (pp b) "whelk/handles.gone").run Tryz.prog w = .ok (232, pp b) w := by kernel_rfl
theorem meth_reader_info (b : Nat) (w : World) : (method 385 110 (pp b) "whelk/handles.info").run Tryz.prog w = .ok (217, pp b) w := by kernel_rfl
theorem meth_reader_read (b : Nat) (w : World) : (method 385 110 (pp b) "whelk/handles.read").run Tryz.prog w = .ok (218, pp b) w := by kernel_rfl
theorem meth_reader_write (b : Nat) (w : World) : (method 385 110 (pp b) "whelk/handles.write").run Tryz.prog w = .ok (219, pp b) w := by kernel_rfl
theorem meth_reader_gone (b : Nat) (w : World) : (method 385 110 (pp b) "whelk/handles.gone").run Tryz.prog w = .ok (216, pp b) w := by kernel_rfl
theorem meth_writer_info (b : Nat) (w : World) : (method 385 114 (pp b) "whelk/handles.info").run Tryz.prog w = .ok (227, pp b) w := by kernel_rfl
theorem meth_writer_read (b : Nat) (w : World) : (method 385 114 (pp b) "whelk/handles.read").run Tryz.prog w = .ok (228, pp b) w := by kernel_rfl
theorem meth_writer_write (b : Nat) (w : World) : (method 385 114 (pp b) "whelk/handles.write").run Tryz.prog w = .ok (229, pp b) w := by kernel_rfl
theorem meth_writer_gone (b : Nat) (w : World) : (method 385 114 (pp b) "whelk/handles.gone").run Tryz.prog w = .ok (226, pp b) w := by kernel_rfl
theorem field_mode (k rf a n : Int) (x y z : Bool) (w : World) : (Instr.field 60 (.agg #[.int .i64 k, .int .i64 rf, .int .i64 a, .int .i64 n, .bool x, .bool y, .bool z]) 4).run Tryz.prog w = .ok (.agg #[.bool x, .bool y, .bool z]) w := by kernel_rfl
theorem field_kind (k rf a n : Int) (x y z : Bool) (w : World) : (Instr.field 60 (.agg #[.int .i64 k, .int .i64 rf, .int .i64 a, .int .i64 n, .bool x, .bool y, .bool z]) 0).run Tryz.prog w = .ok (.int .i64 k) w := by kernel_rfl
theorem field_r (x y z : Bool) (w : World) : (Instr.field 35 (.agg #[.bool x, .bool y, .bool z]) 0).run Tryz.prog w = .ok (.bool x) w := by kernel_rfl
theorem field_w (x y z : Bool) (w : World) : (Instr.field 35 (.agg #[.bool x, .bool y, .bool z]) 1).run Tryz.prog w = .ok (.bool y) w := by kernel_rfl
end Go.Proofs.YtljlpkeddbfpaaaGreatDoor.Hd
