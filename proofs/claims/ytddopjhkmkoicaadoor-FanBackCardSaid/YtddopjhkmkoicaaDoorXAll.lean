/- All walks. -/
import Derived.Test.YtddopjhkmkoicaaDoorXFn3
